/-
  A list that was just made, handed back as a row that can be .
-/
import Derived.Test.YtjalkkalhdnplaaGreatB907f86f
import Derived.Test.YtjalkkalhdnplaaGreatBd2d1618
set_option linter.unusedSimpArgs false
set_option linter.unusedVariables false
set_option maxHeartbeats 10000000
set_option maxRecDepth 100000
namespace Go.Proofs.YtjalkkalhdnplaaGreat
open Go Go.Sim
theorem zhx(a b:Due):zh G 263 [.d (eD a),.d (eD b)] []=some (.d (.bool (lt a b)),[]):=by
 have key:lt a b=(decide (a.1<b.1)||(decide (a.1=b.1)&&decide (a.2<b.2))):=by
  have:=zrK a b
  cases h:lt a b
  ·rw[h] at this;simp at this;simp;omega
  ·rw[h] at this;simp at this;simp;omega
 rw[key];simp only[eD];clear key;exact zW
theorem zBI(d:Due):zh G 261 [.d (eD d)] []=some (.d (.bool (zeF d)),[]):=by
 unfold zeF;simp only[eD];exact zW
def zmt(h:List Due)(j:Int)(k:Nat):zT×St:=match (h.drop k).findIdx? (fun d=>decide (d.2=j)) with|some i=>(.ret,⟨[(4,.d (.int .i64 ((k+i:Nat):Int)))],[]⟩)|none=>(.exit 0,⟨[],[]⟩)
theorem zRR(h:List Due)(j:Int)(hL:h.length<=LIM):∀k,k<=h.length->zN G [] zrb ⟨[(0,.d (.sl (h.map eD))),(1,.d (.int .i64 j)),(5,.d (.int .i64 k))],[]⟩=some (zmt h j k):=by
 refine zaB (fun k=>h.length - k) (fun k=>k<=h.length) _ _ fun k hk L ih=> ?_;simp -implicitDefEqProofs (maxSteps:=4000000) (disch:=omega) only[zrb,go_sem]
 by_cases hlt:k<h.length
 ·simp -implicitDefEqProofs (maxSteps:=4000000) (disch:=omega) only[zWM,show ((k:Int)<(h.length:Int)) by omega,show (0:Int)<=(k:Int) by omega,zXb,zWT,zWF hlt,zfC,zgb,eD,zpp hlt hL,go_sem];unfold zmt;rw[zXf hlt,List.findIdx?_cons]
  by_cases he:h[k].2=j
  ·simp [he]
  ·simp only[he,decide_false,zWL,if_false];have i1:=ih (k+1) zo zo;simp only[zXO,zXK] at i1;rw[i1];unfold zmt
   cases (h.drop (k+1)).findIdx? (fun d=>decide (d.2=j)) with
   | none=>rfl
   | some i=>simp;omega
 ·have:k=h.length:=by omega
  subst this;simp -implicitDefEqProofs (maxSteps:=4000000) (disch:=omega) only[zWM,show ¬((h.length:Int)<(h.length:Int)) by omega,go_sem];simp [zmt]
theorem zsn(h:List Due)(j:Int)(hL:h.length<=LIM):zh G 262 [.d (.sl (h.map eD)),.d (.int .i64 j)] []=some (.d (.int .i64 (zbt h j)),[]):=by
 have:=zRR h j hL 0 zo;simp only[zWV] at this;rw[zO zMt (by simp)];simp -implicitDefEqProofs (maxSteps:=4000000) (disch:=omega) only[zpT,go_sem,zW4];simp only[this];unfold zmt zbt zb1;simp only[zXg,zW4]
 cases h.findIdx? (fun d=>decide (d.2=j))<;>simp -implicitDefEqProofs (maxSteps:=4000000) (disch:=omega) only[go_sem]
def zkL(h:List Due)(k:Nat):zT×St:=if (h.drop k).any (fun d=> !zeF d) then (.ret,⟨[(2,.d (.int .i64 1))],[]⟩) else (.exit 0,⟨[(0,.d (.sl (h.map eD)))],[]⟩)
theorem zRV(h:List Due)(hL:h.length<=12):∀k,k<=h.length->zN G [] zq8 ⟨[(0,.d (.sl (h.map eD))),(3,.d (.int .i64 k))],[]⟩=some (zkL h k):=by
 refine zaB (fun k=>h.length - k) (fun k=>k<=h.length) _ _ fun k hk L ih=> ?_;simp -implicitDefEqProofs (maxSteps:=4000000) (disch:=omega) only[zq8,go_sem]
 by_cases hlt:k<h.length
 ·have hs:=zBI h[k];simp -implicitDefEqProofs (maxSteps:=4000000) (disch:=omega) only[zWM,show ((k:Int)<(h.length:Int)) by omega,show (0:Int)<=(k:Int) by omega,zXb,zWT,zWF hlt,zfC,zgb,hs,zpp hlt (show h.length<=LIM by simp [LIM];omega),go_sem];have i1:=ih (k+1) zo zo;simp only[zXO,zXK] at i1;rw[i1];unfold zkL;rw[zXf hlt,zYu]
  cases zeF h[k]<;>rfl
 ·have:k=h.length:=by omega
  subst this;simp -implicitDefEqProofs (maxSteps:=4000000) (disch:=omega) only[zWM,show ¬((h.length:Int)<(h.length:Int)) by omega,go_sem];simp [zkL]
def zmu(h:List Due)(k:Nat):zT×St:=if (List.range' k (h.length - k)).any (zhR h) then (.ret,⟨[(2,.d (.int .i64 10))],[]⟩) else (.exit 2,⟨[(0,.d (.sl (h.map eD)))],[]⟩)
theorem zRW(h:List Due)(hL:h.length<=12):∀k,k<=h.length->zN G [] zq9 ⟨[(0,.d (.sl (h.map eD))),(4,.d (.int .i64 k))],[]⟩=some (zmu h k):=by
 refine zaB (fun k=>h.length - k) (fun k=>k<=h.length) _ _ fun k hk L ih=> ?_;simp -implicitDefEqProofs (maxSteps:=4000000) (disch:=omega) only[zq9,go_sem]
 by_cases hlt:k<h.length
 ·have hf:=zsn h h[k].2 (by simp [LIM];omega);simp -implicitDefEqProofs (maxSteps:=4000000) (disch:=omega) only[zWM,show ((k:Int)<(h.length:Int)) by omega,show (0:Int)<=(k:Int) by omega,zXb,zWT,zWF hlt,zfC,zgb,eD,hf,zpp hlt (show h.length<=LIM by simp [LIM];omega),go_sem];have i1:=ih (k+1) zo zo;simp only[zXO,zXK] at i1;rw[i1];unfold zmu;rw[show h.length - k=(h.length - (k+1))+1 by omega,zYg,zYu];have hd:zhR h k= !decide (zbt h h[k].2=k):=by simp [zhR,hlt]
  rw[hd]
  cases decide (zbt h h[k].2=k)<;>rfl
 ·have:k=h.length:=by omega
  subst this;simp -implicitDefEqProofs (maxSteps:=4000000) (disch:=omega) only[zWM,show ¬((h.length:Int)<(h.length:Int)) by omega,go_sem];simp [zmu]
def zoR(h:List Due)(k:Nat):zT×St:=if (List.range' k (h.length - k)).any (zid h) then (.ret,⟨[(2,.d (.int .i64 11))],[]⟩) else (.exit 4,⟨[],[]⟩)
theorem zRX(h:List Due)(hL:h.length<=12):∀k:Nat,1<=k->zN G [] zra ⟨[(0,.d (.sl (h.map eD))),(5,.d (.int .i64 k))],[]⟩=some (zoR h k):=by
 refine zaB (fun k=>h.length - k) (fun k=>1<=k) _ _ fun k hk L ih=> ?_;simp -implicitDefEqProofs (maxSteps:=4000000) (disch:=omega) only[zra,go_sem]
 by_cases hlt:k<h.length
 ·have hq:IntKind.i64.wrap (((k:Int) - 1).tdiv 2)=(((k - 1) / 2:Nat):Int):=by
     rw[zC2 (by rw[zX9 zo];omega) (by rw[zX9 zo];omega),zX9 zo];omega
  have hlt2:(k - 1) / 2<h.length:=by omega
  have hb:=zhx h[k] h[(k - 1) / 2];simp -implicitDefEqProofs (maxSteps:=4000000) (disch:=omega) only[zWM,show ((k:Int)<(h.length:Int)) by omega,show (((k - 1) / 2:Nat):Int)<(h.length:Int) by omega,zC2 (show -4294967296<=(k:Int) - 1 by omega) zo,hq,hb,Int.natCast_nonneg,zXb,zWT,zWF hlt,zWF hlt2,zfC,zgb,zpp hlt (show h.length<=LIM by simp [LIM];omega),go_sem];have i1:=ih (k+1) zo zo;simp only[zXO,zXK] at i1;rw[i1];unfold zoR;rw[show h.length - k=(h.length - (k+1))+1 by omega,zYg,zYu];have hd:zid h k=lt h[k] h[(k - 1) / 2]:=by simp [zid,hlt,hlt2]
  rw[hd]
  cases lt h[k] h[(k - 1) / 2]<;>rfl
 ·simp -implicitDefEqProofs (maxSteps:=4000000) (disch:=omega) only[zWM,show ¬((k:Int)<(h.length:Int)) by omega,go_sem];simp [zoR,show h.length - k=0 by omega]
theorem zoS(h:List Due)(hL:h.length<=LIM):zh G 196 [.d (.sl (h.map eD))] []=some (.d (.int .i64 (zct h)),[]):=by
 rw[zO zMs (by simp)];simp -implicitDefEqProofs (maxSteps:=4000000) (disch:=omega) only[zpS,go_sem,zW4];unfold zct
 by_cases h12:12<h.length
 ·simp -implicitDefEqProofs (maxSteps:=4000000) (disch:=omega) only[h12,zWM,show (12<(h.length:Int)) by omega,go_sem]
 ·have e0:=zRV h zo 0 zo;have e1:=zRW h zo 0 zo;have e2:=zRX h zo 1 zo;simp only[zWV] at e0 e1;simp only[zXK] at e2;have hlen:¬(12<(h.length:Int)):=by omega
  cases hA:h.any (fun d=> !zeF d)
  ·cases hB:(List.range' 0 h.length).any (zhR h)
   ·cases hC:(List.range' 1 (h.length - 1)).any (zid h)<;>
       simp -implicitDefEqProofs (maxSteps:=4000000) (disch:=omega) only[h12,zWM,hlen,e0,e1,e2,zkL,zmu,zoR,zXg,zX8,hA,hB,hC,go_sem]
   ·simp -implicitDefEqProofs (maxSteps:=4000000) (disch:=omega) only[h12,zWM,hlen,e0,e1,zkL,zmu,zXg,zX8,hA,hB,go_sem]
  ·simp -implicitDefEqProofs (maxSteps:=4000000) (disch:=omega) only[h12,zWM,hlen,e0,zkL,zXg,hA,go_sem]
theorem zT1{h:List Due}{i j:Nat}(hi:i<h.length)(hj:j<h.length):(((h.map eD).set i (eD h[j])).map AV.d)[j]? = some (.d (eD h[j])):=by
 rw[zWT,zYF]
 by_cases e:i=j
 ·rw[zWz e,zWz (by simpa using hi)];rfl
 ·rw[zWy e,zWT,zWF hj];rfl
theorem zso(h:List Due)(i j:Nat)(hi:i<h.length)(hj:j<h.length)(hL:h.length<=1000):zh G 325 [.d (.sl (h.map eD)),.d (.int .i64 i),.d (.int .i64 j)] []=some (.d (.sl ((swp h i j).map eD)),[]):=by
 have hs:=zjJ h;have h2:=zT1 hi hj;have hz:¬h.length=0:=by omega
 unfold swp;rw[zq hi,zq hj];have hl:(((h.map eD).set i (eD h[j])).set j (eD h[i])).length=h.length:=by simp
 have ht:List.take h.length (((h.map eD).set i (eD h[j])).set j (eD h[i]))=((h.map eD).set i (eD h[j])).set j (eD h[i]):=zYp (by rw[hl];exact zW5 _);exact zW
def zoQ(p:List Due×Nat):St:=⟨[(0,.d (.sl (p.1.map eD))),(1,.d (.int .i64 p.2))],[]⟩
theorem zRU:∀p:List Due×Nat,p.2<p.1.length/\p.1.length<=1000->zN G [] zrc (zoQ p)=some (.exit 0,⟨[(0,.d (.sl ((upL p.1 p.2).1.map eD)))],[]⟩):=by
 refine zaB (fun p:List Due×Nat=>p.2) (fun p:List Due×Nat=>p.2<p.1.length/\p.1.length<=1000) zoQ _ fun⟨l,i⟩ ⟨hi,hL⟩ L ih=> ?_;simp only[zoQ] at hi hL ih ⊢;simp only[zrc];rw[upL]
 by_cases h0:0<i
 ·have hq:((i:Int) - 1).tdiv 2=(((i - 1) / 2:Nat):Int):=by rw[zX9 zo];omega
  have hj:(i - 1) / 2<l.length:=by omega
  have hb:=zhx l[i] l[(i - 1) / 2];have hsw:=zso l i ((i - 1) / 2) hi hj hL;have fin:=ih (swp l i ((i - 1) / 2),(i - 1) / 2) ⟨by simp only[zdw];omega,by simp only[zdw];omega⟩ (by simp only;omega);simp only at fin;rw[zWz h0,zq hi,zq hj];have hsl:=zdw l i ((i - 1) / 2);generalize upL (swp l i ((i - 1) / 2)) ((i - 1) / 2)=r at *;generalize swp l i ((i - 1) / 2)=sw at *;clear ih
  cases hlt:lt l[i] l[(i - 1) / 2]
  ·rw[hlt] at hb;simp only[if_false,zWL];clear hlt fin hsw;exact zS
  ·rw[hlt] at hb;simp only[if_true];clear hlt;exact zS
 ·rw[zWy h0];clear ih;exact zS
theorem zBJ(h:List Due)(i:Nat)(hi:i<h.length)(hL:h.length<=1000):zh G 321 [.d (.sl (h.map eD)),.d (.int .i64 i)] []=some (.d (.sl ((upL h i).1.map eD)),[]):=by
 have:=zRU (h,i) ⟨hi,hL⟩;simp only[zoQ] at this;rw[zO zMu (by simp)];simp -implicitDefEqProofs (maxSteps:=4000000) (disch:=omega) only[zpU,go_sem,zW4];simp -implicitDefEqProofs (maxSteps:=4000000) (disch:=omega) only[this,go_sem]
theorem zBG(h:List Due)(d:Due)(hL:h.length<=LIM):zh G 306 [.d (.sl (h.map eD)),.d (eD d)] []=some (.d (eDE (zfP h d)),[]):=by
 have hv:=zoS h hL;have hf:=zsn h d.2 hL;have hd:=zBI d;have hs:=zjJ h;have hL2:h.length<=4294967296:=hL;unfold zfP zmm eDE
 by_cases h0:zct h=0
 ·have h12:=ztl h0;rw[h0] at hv;simp only[h0,ne_eq,zWR,if_false];clear h0
  cases h1:zeF d
  ·rw[h1] at hd;simp only[if_true,zWA,show ((1:Int)=0)=False by simp,if_false];clear h1 hf;exact zW
  ·rw[h1] at hd;simp only[zXB,if_false];clear h1
   by_cases h2:h.length=12
   ·simp only[h2,if_true,zWA,show ((3:Int)=0)=False by simp,if_false];clear hf;exact zW
   ·simp only[h2,if_false]
    by_cases h3:0<=zbt h d.2
    ·simp only[h3,if_true,zWA,show ((10:Int)=0)=False by simp,if_false];exact zW
    ·simp only[h3,if_false,if_true];obtain⟨l,hl⟩:∃l,l=h++[d]:=⟨_,rfl⟩;have e1:h.map eD++[D.agg [.int .i64 d.1,.int .i64 d.2]]=l.map eD:=by simp [eD,hl]
     have e2:l.length=h.length+1:=by simp [hl]
     have hu:=zBJ l h.length zo zo;unfold zfQ;rw[<- hl];have hul:=zV1 l h.length;have hsl:=zjJ l;generalize upL l h.length=r at *;simp only[eD] at hd ⊢;clear hl;exact zW
 ·simp only[h0,ne_eq,zXd,if_true,if_false,zWA];clear hf hd;exact zW
def zkK(p:List Due×Nat):St:=⟨[(0,.d (.sl (p.1.map eD))),(1,.d (.int .i64 p.2))],[]⟩
theorem zRP:∀p:List Due×Nat,p.2<p.1.length/\p.1.length<=1000->∃e:zT,(e= .exit 0/\zN G [] zn3 (zkK p)=some (.exit 0,⟨[(0,.d (.sl ((zbI p.1 p.2).map eD)))],[]⟩))\/(e= .ret/\zN G [] zn3 (zkK p)=some (.ret,⟨[(4,.d (.sl ((zbI p.1 p.2).map eD)))],[]⟩)):=by
 refine zl0 (fun p:List Due×Nat=>p.1.length - p.2) (fun p:List Due×Nat=>p.2<p.1.length/\p.1.length<=1000) zkK (fun p r=>∃e:zT,(e= .exit 0/\r=some (.exit 0,⟨[(0,.d (.sl ((zbI p.1 p.2).map eD)))],[]⟩))\/(e= .ret/\r=some (.ret,⟨[(4,.d (.sl ((zbI p.1 p.2).map eD)))],[]⟩))) fun⟨l,i⟩ ⟨hi,hL⟩ L ih=> ?_;simp only[zkK] at hi hL ih ⊢;simp only[zn3]
 by_cases h1:2 * i+1<l.length
 ·have fin:∀k:Nat,i<k->k<l.length->∃e:zT,(e= .exit 0/\L ⟨[(0,.d (.sl ((swp l i k).map eD))),(1,.d (.int .i64 k))],[]⟩=some (.exit 0,⟨[(0,.d (.sl ((zbI (swp l i k) k).map eD)))],[]⟩))\/(e= .ret/\L ⟨[(0,.d (.sl ((swp l i k).map eD))),(1,.d (.int .i64 k))],[]⟩=some (.ret,⟨[(4,.d (.sl ((zbI (swp l i k) k).map eD)))],[]⟩)):=fun k h1 h2=>
     ih (swp l i k,k) ⟨by simp only[zdw];omega,by simp only[zdw];omega⟩ (by simp only[zdw];omega)
  have hg:∀k:Nat,k<l.length->(List.map eD l)[k]? = some (eD (l.getD k (0,0))):=fun k hk=>by simp [zWT,zWF hk,hk]
  have g0:=hg i hi;have g1:=hg _ h1;have s1:=zso l i (2 * i+1) hi h1 hL;have f1:=fin (2 * i+1) zo h1;simp only[zXO,zYZ,zXK,zYa] at s1 f1;have t1:((2:Int) * (i:Int)+1).toNat=2 * i+1:=by omega
  have t2:((2:Int) * (i:Int)+1+1).toNat=2 * i+1+1:=by omega
  by_cases h2:2 * i+1+1<l.length
  ·have g2:=hg _ h2;have s2:=zso l i (2 * i+1+1) hi h2 hL;have f2:=fin (2 * i+1+1) zo h2;simp only[zXO,zYZ,zXK,zYa] at s2 f2
   cases hlt:lt (l.getD (2 * i+1+1) (0,0)) (l.getD (2 * i+1) (0,0))
   ·cases hlt2:lt (l.getD (2 * i+1) (0,0)) (l.getD i (0,0))
    ·simp -implicitDefEqProofs (maxSteps:=4000000) (disch:=omega) only[go_sem,g0,g1,g2,t1,t2,zhx,hlt,hlt2,zfC,zgb];have e:zbI l i=l:=by rw[zbI];simp only[h1,h2,hlt,hlt2,dite_true,dite_false,zXS,zX2,zXF,if_true,if_false,zWL,reduceCtorEq]
     exact⟨.ret,.inr ⟨rfl,by rw[e]⟩⟩
    ·simp -implicitDefEqProofs (maxSteps:=4000000) (disch:=omega) only[go_sem,g0,g1,g2,t1,t2,zhx,hlt,hlt2,s1,zfC,zgb];have e:zbI l i=zbI (swp l i (2 * i+1)) (2 * i+1):=by rw[zbI];simp only[h1,h2,hlt,hlt2,dite_true,dite_false,zXS,zX2,zXF,if_true,if_false,zWL,reduceCtorEq]
     rw[e];exact f1
   ·cases hlt2:lt (l.getD (2 * i+1+1) (0,0)) (l.getD i (0,0))
    ·simp -implicitDefEqProofs (maxSteps:=4000000) (disch:=omega) only[go_sem,g0,g1,g2,t1,t2,zhx,hlt,hlt2,zfC,zgb];have e:zbI l i=l:=by rw[zbI];simp only[h1,h2,hlt,hlt2,dite_true,dite_false,zXS,zX2,zXF,if_true,if_false,zWL,reduceCtorEq]
     exact⟨.ret,.inr ⟨rfl,by rw[e]⟩⟩
    ·simp -implicitDefEqProofs (maxSteps:=4000000) (disch:=omega) only[go_sem,g0,g1,g2,t1,t2,zhx,hlt,hlt2,s2,zfC,zgb];have e:zbI l i=zbI (swp l i (2 * i+1+1)) (2 * i+1+1):=by rw[zbI];simp only[h1,h2,hlt,hlt2,dite_true,dite_false,zXS,zX2,zXF,if_true,if_false,zWL,reduceCtorEq]
     rw[e];exact f2
  ·cases hlt2:lt (l.getD (2 * i+1) (0,0)) (l.getD i (0,0))
   ·simp -implicitDefEqProofs (maxSteps:=4000000) (disch:=omega) only[go_sem,g0,g1,t1,t2,zhx,hlt2,zfC,zgb];have e:zbI l i=l:=by rw[zbI];simp only[h1,h2,hlt2,dite_true,dite_false,zXS,zX2,zXF,if_true,if_false,zWL,reduceCtorEq]
    exact⟨.ret,.inr ⟨rfl,by rw[e]⟩⟩
   ·simp -implicitDefEqProofs (maxSteps:=4000000) (disch:=omega) only[go_sem,g0,g1,t1,t2,zhx,hlt2,s1,zfC,zgb];have e:zbI l i=zbI (swp l i (2 * i+1)) (2 * i+1):=by rw[zbI];simp only[h1,h2,hlt2,dite_true,dite_false,zXS,zX2,zXF,if_true,if_false,zWL,reduceCtorEq]
    rw[e];exact f1
 ·simp -implicitDefEqProofs (maxSteps:=4000000) (disch:=omega) only[go_sem,zW4];have e:zbI l i=l:=by rw[zbI];simp only[h1,dite_false]
  exact⟨.exit 0,.inl ⟨rfl,by rw[e]⟩⟩
theorem zRQ(h:List Due)(i:Nat)(hi:i<h.length)(hL:h.length<=1000):zh G 324 [.d (.sl (h.map eD)),.d (.int .i64 i)] []=some (.d (.sl ((zbI h i).map eD)),[]):=by
 obtain⟨e,h1|h1⟩:=zRP (h,i) ⟨hi,hL⟩
 ·have:=h1.2;simp only[zkK] at this;rw[zO zzA (by simp)];simp -implicitDefEqProofs (maxSteps:=4000000) (disch:=omega) only[zna,go_sem,this]
 ·have:=h1.2;simp only[zkK] at this;rw[zO zzA (by simp)];simp -implicitDefEqProofs (maxSteps:=4000000) (disch:=omega) only[zna,go_sem,this]
theorem zBF(h:List Due)(i:Nat)(hi:i<h.length)(hL:h.length<=1000):zh G 320 [.d (.sl (h.map eD)),.d (.int .i64 i)] []=some (.d (.sl ((zeh h i).map eD)),[]):=by
 obtain⟨m,hm⟩:∃m,m=h.length - 1:=⟨_,rfl⟩;obtain⟨t,ht⟩:∃t,t=h.take m:=⟨_,rfl⟩;have htl:t.length=m:=by simp [ht];omega
 have e1:List.take m (h.map eD)=t.map eD:=by rw[ht,zYy]
 have w1:((h.length:Int) - 1)=(m:Int):=by omega
 have hmlt:m<h.length:=by omega
 have him:i<=m/\m<=1000:=by omega
 have him2:m<=4294967296:=by omega
 have hs:=zjJ h;have hs2:=zjJ t;unfold zeh;rw[<- hm, <- ht]
 by_cases hi2:i=m
 ·subst hi2;rw[zWz rfl];clear hm ht;exact zW
 ·have hi3:i<m:=by omega
  rw[zWy hi2];obtain⟨l,hl⟩:∃l,l=t.set i (h.getD m (0,0)):=⟨_,rfl⟩;have hll:l.length=m:=by rw[hl,zW8,htl]
  have e5:(t.map eD).set i (eD (h[m]'hmlt))=l.map eD:=by rw[hl,zq hmlt,zXy]
  have hu:=zBJ l i zo zo;have hd:=zRQ l i zo zo;rw[<- hl];show zh G 320 _ _=some (.d (.sl ((if (upL l i).2=i then zbI (upL l i).1 i else (upL l i).1).map eD)),[]);have hat:= @zCR l i;have hup:(¬0<i\/lt (l.getD i (0,0)) (l.getD ((i - 1) / 2) (0,0))=false)->upL l i=(l,i):=fun hc=>by
   rw[upL]
   rcases hc with hc|hc
   ·rw[zWy hc]
   ·split
    ·rw[zWy (by rw[hc];decide)]
    ·rfl
  have hm4:m<=1000:=by omega
  clear hl hm ht
  by_cases h0:0<i
  ·have hq:((i:Int) - 1).tdiv 2=(((i - 1) / 2:Nat):Int):=by rw[zX9 zo];omega
   have hj:(i - 1) / 2<l.length:=by omega
   have hil:i<l.length:=by omega
   have hbf:=zhx l[i] l[(i - 1) / 2]
   cases hlt:lt l[i] l[(i - 1) / 2]
   ·rw[hup (.inr (by rw[zq hil,zq hj];exact hlt))] at hu ⊢;rw[zWz rfl];rw[hlt] at hbf;clear hlt hup hat hu;exact zW
   ·have:¬(upL l i).2=i:=by
       rcases hat.2 with hc|hc
       ·omega
       ·exact absurd ⟨h0,by rw[zq hil,zq hj];exact hlt⟩ hc.1
    rw[zWy this];rw[hlt] at hbf;generalize upL l i=r at *;clear hlt hup hat hd this;exact zW
  ·rw[hup (.inl h0)];rw[zWz rfl];clear hup hat hu;exact zW
theorem zBH(h:List Due)(id:Int)(hL:h.length<=LIM):zh G 305 [.d (.sl (h.map eD)),.d (.int .i64 id)] []=some (.d (eDE (zcj h id)),[]):=by
 have hv:=zoS h hL;have hf:=zsn h id hL;unfold zcj eDE
 by_cases h0:zct h=0
 ·have h12:=ztl h0
  by_cases hn:zbt h id<0
  ·rw[zO zqE (by simp)];simp -implicitDefEqProofs (maxSteps:=4000000) (disch:=omega) only[zli,go_sem,hv,h0,hf,hn,zWA]
  ·have hd:=zBF h (zbt h id).toNat (by have:=zIh h id;omega) zo;rw[show (((zbt h id).toNat:Nat):Int)=zbt h id by omega] at hd;rw[zO zqE (by simp)];simp -implicitDefEqProofs (maxSteps:=4000000) (disch:=omega) only[zli,go_sem,hv,h0,hf,hn,hd]
 ·rw[zO zqE (by simp)];simp -implicitDefEqProofs (maxSteps:=4000000) (disch:=omega) only[zli,go_sem,hv,h0]
def Asc(l:List Due)(n:Nat):Prop:=∀p q,p<q->q<n->lt (l.getD q dz) (l.getD p dz)=false
def zi1(l:List Due)(j:Nat):List Due:=
 if 0<j then (if lt (l.getD j dz) (l.getD (j - 1) dz) then zi1 (swp l j (j - 1)) (j - 1) else l) else l
termination_by j
theorem zz6(l:List Due)(j:Nat):(zi1 l j).length=l.length:=by
 fun_induction zi1 l j with
 | case1 l j h0 h1 ih=>rw[ih,zdw]
 | case2=>rfl
 | case3=>rfl
theorem zM9(l:List Due)(j i:Nat)(hi:i<l.length)(hj:j<=i)(h1:∀p q,p<q->q<=i->p≠j->q≠j->lt (l.getD q dz) (l.getD p dz)=false)(h2:∀q,j<q->q<=i->lt (l.getD q dz) (l.getD j dz)=false):Asc (zi1 l j) (i+1)/\(zi1 l j).Perm l:=by
 fun_induction zi1 l j with
 | case1 l j h0 hlt ih=>
  have hs:∀k,(swp l j (j - 1)).getD k dz=if k=j - 1 then l.getD j dz else if k=j then l.getD (j - 1) dz else l.getD k dz:=fun k=>zsW l j (j - 1) k zo zo
  have ih':=ih (by rw[zdw];exact hi) zo (fun p q hpq hq hp hq2=>by
      rw[hs,hs]
      by_cases e1:q=j
      ·subst e1;rw[zWy zo,zWz rfl,zWy zo,zWy zo];exact h1 p (q - 1) zo zo zo zo
      ·by_cases e2:p=j
       ·subst e2;rw[zWy zo,zWy zo,zWy zo,zWz rfl];exact h1 (p - 1) q zo hq zo zo
       ·rw[zWy zo,zWy e1,zWy zo,zWy e2];exact h1 p q hpq hq e2 e1) (fun q hq1 hq2=>by
      rw[hs,hs,zWy zo,zWz rfl]
      by_cases e1:q=j
      ·rw[zWz e1];exact zja hlt
      ·rw[zWy e1];exact h2 q zo hq2)
  exact⟨ih'.1,ih'.2.trans (zsX l j (j - 1) zo zo)⟩
 | case2 l j h0 hlt=>
  refine⟨fun p q hpq hq=> ?_,.refl _⟩;have hjj:lt (l.getD j dz) (l.getD (j - 1) dz)=false:=by simpa using hlt
  by_cases e1:p=j
  ·subst e1;exact h2 q hpq zo
  ·by_cases e2:q=j
   ·subst e2
    by_cases e3:p=q - 1
    ·subst e3;exact hjj
    ·exact zi5 (h1 p (q - 1) zo zo e1 zo) hjj
   ·exact h1 p q hpq zo e1 e2
 | case3 l j h0=>
  refine⟨fun p q hpq hq=> ?_,.refl _⟩
  by_cases e1:p=j
  ·subst e1;exact h2 q hpq zo
  ·exact h1 p q hpq zo e1 zo
def zg1(l:List Due)(i:Nat):List Due:=if i<l.length then zg1 (zi1 l i) (i+1) else l
termination_by l.length - i
decreasing_by rw[zz6];omega
theorem zkX(l:List Due)(i:Nat)(h:Asc l i):Asc (zg1 l i) l.length/\(zg1 l i).Perm l:=by
 fun_induction zg1 l i with
 | case1 l i hi ih=>
  have:=zM9 l i i hi zo (fun p q hpq hq _ hq2=>h p q hpq zo) (fun q h1 h2=>by omega);have ih':=ih this.1;rw[zz6] at ih';exact⟨ih'.1,ih'.2.trans this.2⟩
 | case2 l i hi=>exact⟨fun p q hpq hq=>h p q hpq zo,.refl _⟩
def zjZ(now:Int)(l:List Due):List Int:=(l.filter fun d=>decide (d.1<=now)).map (·.2)
def zdd(h:List Due)(now:Int):List Int:=if zct h=0 then zjZ now (zg1 h 1) else []
theorem zDR:∀(a b:List Due),a.Perm b->a.Pairwise (fun x y=>lt y x=false)->b.Pairwise (fun x y=>lt y x=false)->a.Nodup->a=b:=by
 intro a
 induction a with
 | nil=>intro b hp _ _ _;exact (List.Perm.nil_eq hp)
 | cons x a ih=>
  intro b hp ha hb hn
  cases b with
  | nil=>exact absurd hp.symm.nil_eq (by simp)
  | cons y b=>
   have hxy:x=y:=by
    by_cases e:x=y
    ·exact e
    ·have h1:y∈a:=by
        have:=hp.symm.subset (List.mem_cons_self (a:=y) (l:=b))
        rcases zXe.1 this with h|h
        ·exact absurd h.symm e
        ·exact h
     have h2:x∈b:=by
      have:=hp.subset (List.mem_cons_self (a:=x) (l:=a))
      rcases zXe.1 this with h|h
      ·exact absurd h e
      ·exact h
     have h3:=(zYC.1 ha).1 y h1;have h4:=(zYC.1 hb).1 x h2;rw[zhp] at h3 h4;exact Prod.ext zo zo
   subst hxy;rw[ih b ((List.perm_cons _).1 hp) (zYC.1 ha).2 (zYC.1 hb).2 (zXQ.1 hn).2]
theorem ztL{l:List Due}(h:Asc l l.length):l.Pairwise (fun x y=>lt y x=false):=by
 rw[zXu];intro i j hi hj hij;have:=h i j hij hj;simpa [hi,hj] using this
theorem zUv{h:List Due}(o:Ok h)(hne:h≠[]):zg1 h 1=h.getD 0 dz::zg1 (zeh h 0) 1:=by
 have hd:=zls o 0 (zX6.2 hne);have s1:=zkX h 1 (fun p q hp hq=>by omega);have s2:=zkX (zeh h 0) 1 (fun p q hp hq=>by omega);have hl1:=s1.2.length_eq;have hl2:=s2.2.length_eq;rw[<- hl1] at s1;rw[<- hl2] at s2;have hnd:h.Nodup:=List.Pairwise.of_map (fun d:Due=>d.2) (fun a b hh e=>hh (by rw[e])) o.ids;refine zDR _ _ (s1.2.trans (hd.2.symm.trans (s2.2.symm.cons _))) (ztL s1.1) (zYC.2 ⟨fun d hm=> ?_,ztL s2.1⟩) (s1.2.nodup_iff.2 hnd);exact zCJ o.ord d (hd.2.subset (zZO _ (s2.2.subset hm)))
theorem zVY{h:List Due}{now:Int}(o:Ok h)(hne:h≠[]):zdd h now=if (h.getD 0 dz).1<=now then (h.getD 0 dz).2::zdd (zeh h 0) now else []:=by
 have hd:=zls o 0 (zX6.2 hne);unfold zdd;rw[zWz ((zfY h).2 o),zWz ((zfY _).2 hd.1),zUv o hne];unfold zjZ
 by_cases hc:(h.getD 0 dz).1<=now
 ·rw[zWz hc,List.filter_cons_of_pos (by simpa using hc),zWD]
 ·rw[zWy hc,List.filter_cons_of_neg (by simpa using hc)];have:∀d∈zg1 (zeh h 0) 1,¬d.1<=now:=by
   intro d hm;have s2:=zkX (zeh h 0) 1 (fun p q hp hq=>by omega);have:=zCJ o.ord d (hd.2.subset (zZO _ (s2.2.subset hm)));rw[zhp] at this;omega
  rw[zY2.2 (by simpa using this)];rfl
def rUS(now:Int)(p:List Due×List Int):St:=⟨[(0,.d (.sl (p.1.map eD))),(1,.d (.int .i64 now)),(5,.acc 5 (zt p.2))],[(5,.acc p.2.length)]⟩
theorem zRS(now:Int):∀p:List Due×List Int,p.1.length<=LIM/\(zct p.1=0->p.1.length+p.2.length<=1000)->zN G [] zlS (rUS now p)=some (.exit 0,⟨[(5,.acc 5 (zt (p.2++zdd p.1 now)))],[(5,.acc (p.2++zdd p.1 now).length)]⟩):=by
 refine zaB (fun p:List Due×List Int=>p.1.length) _ (rUS now) _ fun⟨h,out⟩ ⟨hL,hL2⟩ L ih=> ?_;simp only[rUS] at ih hL hL2 ⊢;have hv:=zoS h hL
 by_cases h0:zct h=0
 ·have hl3:=hL2 h0;have o:=(zfY h).1 h0
  by_cases he:h=[]
  ·subst he;have e:zdd [] now=[]:=by unfold zdd;rw[zWz h0];unfold zg1;simp [zjZ]
   rw[e,zWZ];simp only[zlS,zWA] at hv ⊢;simp -implicitDefEqProofs (maxSteps:=4000000) (disch:=omega) only[go_sem,hv,h0]
  ·have hpos:=zX6.2 he;have hd:=zls o 0 hpos;have hl1:(zeh h 0).length+1=h.length:=by simpa using hd.2.length_eq
   have hg:(h.map eD)[0]? = some (eD (h.getD 0 dz)):=by simp [zWT,zWF hpos,hpos]
   have hc:=zBF h 0 hpos zo;simp only[zWV] at hc;rw[zVY o he];have:=ih (zeh h 0,out++[(h.getD 0 dz).2]) ⟨by simp only;omega,fun _=>by simp only[zWJ,zW6];omega⟩ (by simp only;omega);simp only[zlS]
   by_cases hcc:(h.getD 0 dz).1<=now
   ·rw[zWz hcc];simp only[zXq,zW1,zWW] at this;simp only[zt,zWQ,zWD,zWA,zWJ,zWI,zWK,zXO,zXK,zW4] at this;simp -implicitDefEqProofs (maxSteps:=4000000) (disch:=omega) only[go_sem,hv,h0,hg,eD,hcc,hc,zpz];exact this
   ·rw[zWy hcc,zWZ];simp -implicitDefEqProofs (maxSteps:=4000000) (disch:=omega) only[go_sem,hv,h0,hg,eD,hcc]
 ·have e:zdd h now=[]:=by unfold zdd;rw[zWy h0]
  rw[e,zWZ];simp only[zlS];simp -implicitDefEqProofs (maxSteps:=4000000) (disch:=omega) only[go_sem,hv,h0]
theorem zRT(h:List Due)(now:Int)(hL:h.length<=LIM):zh G 309 [.d (.sl (h.map eD)),.d (.int .i64 now)] []=some (.d (.sl (zt (zdd h now))),[]):=by
 have hl:=zRS now (h,[]) ⟨hL,fun h0=>by have:=ztl h0;simp only[zWK] at this ⊢; omega⟩;simp only[rUS,zWA,zWK,zWW,zt] at hl;rw[zO zMr (by simp)];simp -implicitDefEqProofs (maxSteps:=4000000) (disch:=omega) only[zpR,go_sem,hl]
theorem zkF(n lo hi:Int):zh G 260 [.d (.int .i64 n),.d (.int .i64 lo),.d (.int .i64 hi)] []=some (.d (.bool (decide (lo<=n/\n<=hi))),[]):=by
 by_cases h:lo<=n
 ·by_cases h2:n<=hi
  ·rw[zWY ⟨h,h2⟩];exact zW
  ·rw[zW0 zo];exact zW
 ·rw[zW0 zo];exact zW
theorem zBx(m:Message)(e:Int):zh G 52 [.d (zk m),.d (.int .i64 e)] []=some (.d (.bool (decide (m.epoch<e))),[]):=by
 exact zW
def zak(m:Message):Int:=
 if 1<=m.id/\m.id<=1073741824/\0<=m.route/\m.route<=65535/\0<=m.epoch/\m.epoch<=65536/\0<=m.count/\m.count<=8/\m.count<=m.gen/\m.gen<=65536/\0<=m.sent/\m.sent<=1073741824 then (if 16<m.body.length then 2 else 0) else 1
theorem zih(m:Message):zh G 195 [.d (zk m)] []=some (.d (.int .i64 (zak m)),[]):=by
 have i1:=zkF m.id 1 1073741824;have i2:=zkF m.route 0 65535;have i3:=zkF m.epoch 0 65536;have i4:=zkF m.count 0 8;have i5:=zkF m.gen m.count 65536;have i6:=zkF m.sent 0 1073741824;unfold zak
 split
 ·split
  ·exact zW
  ·exact zW
 ·exact zW
def zfL(l:List zx)(i:Nat):Int:=
 if zak (l.getD i zbZ).msg≠0 then zak (l.getD i zbZ).msg
 else if (l.getD i zbZ).msg.gen=0 then 7
 else if (l.getD i zbZ).deadline<0\/1073741824<(l.getD i zbZ).deadline then 1
 else if 0<i/\(l.getD i zbZ).msg.id<=(l.getD (i - 1) zbZ).msg.id then 11 else 0
def zgQ(l:List zx)(i:Nat):Bool:=decide (zfL l i≠0)
def obT(o:Nat)(t:Table):Nat×Go.Sim.Obj:=(o,.row [.d (zan t)])
theorem zRf(t:Table)(hL:t.l.length<=12):zN G [] zrg ⟨[(1,.ref 1 0 0),(3,.d (.int .i64 0))],[obT 1 t]⟩=some (zhX t.l.length (zgQ t.l) (fun k=>(.ret,⟨[(2,.d (.int .i64 (zfL t.l k)))],[]⟩)) (.exit 0,⟨[(1,.ref 1 0 0)],[obT 1 t]⟩)):=by
 refine zh8 (G:=G) t.l.length (zgQ t.l) (fun k=>⟨[(1,.ref 1 0 0),(3,.d (.int .i64 k))],[obT 1 t]⟩) _ _ fun k hk L=> ?_;simp only[zrg,obT]
 by_cases h0:k<t.l.length
 ·rw[zWz h0];have hm:=zih t.l[k].msg;simp only[zk] at hm;unfold zgQ zfL;rw[zq h0]
  by_cases c1:zak t.l[k].msg=0
  ·rw[c1] at hm;simp only[c1,ne_eq,zWR,if_false]
   by_cases c2:t.l[k].msg.gen=0
   ·simp only[c2,if_true,show ((7:Int)=0)=False by simp,zXd,decide_true];rw[c2] at hm;exact zS
   ·simp only[c2,if_false]
    by_cases c3:t.l[k].deadline<0\/1073741824<t.l[k].deadline
    ·skip;simp only[c3,if_true,show ((1:Int)=0)=False by simp,zXd,decide_true];exact zS
    ·skip;simp only[c3,if_false]
     by_cases c4:0<k
     ·have hk1:k - 1<t.l.length:=by omega
      have e1:(k:Int) - 1=((k - 1:Nat):Int):=by omega
      rw[zq hk1]
      by_cases c5:t.l[k].msg.id<=t.l[k - 1].msg.id
      ·simp only[c4,c5,zXs,if_true,show ((11:Int)=0)=False by simp,zXd,decide_true];exact zS
      ·simp only[c4,c5,zYo,if_false,zWR,decide_false,zWL];exact zS
     ·simp only[c4,zXF,if_false,zWR,decide_false,zWL];exact zS
  ·simp only[c1,ne_eq,zXd,if_true,decide_true];exact zS
 ·rw[zWy h0];exact zS
def zab(l:List zx)(id:Int):Int:=zb1 (fun x=>decide (x.msg.id=id)) l
theorem zmn(t:Table)(id:Int)(hL:t.l.length<=4294967296):zh G 197 [.d (zan t),.d (.int .i64 id)] []=some (.d (.int .i64 (zab t.l id)),[]):=by
 have hl:=zh8 (G:=G) (x:=zrh) (ks:=[]) t.l.length (atB t.l fun x=>decide (x.msg.id=id)) (fun k=>⟨[(1,.d (.int .i64 id)),(2,.ref 2 0 0),(5,.d (.int .i64 k))],[obT 2 t]⟩) (fun k=>(.ret,⟨[(4,.d (.int .i64 k))],[]⟩)) (.exit 0,⟨[],[]⟩) (fun k hk L=>by
  simp only[zrh,obT]
  by_cases h0:k<t.l.length
  ·simp only[h0,if_true,zgA h0];exact zS
  ·exact zS)
 rw[ziV] at hl;simp only[obT] at hl;simp only[zNr,zp] at hl;unfold zab zb1
 cases hf:t.l.findIdx? (fun x=>decide (x.msg.id=id)) with
 | none=>rw[hf] at hl;clear hf;exact zW
 | some i=>rw[hf] at hl;clear hf;exact zW
def zks(t:Table):Bool:=decide (t.heap.length=t.l.length)&&t.l.all fun x=>t.heap.any fun d=>decide (d=(x.deadline,x.msg.id))
def zeW(l:List zx):Int:=zhX l.length (zgQ l) (zfL l) 0
def zah(t:Table):Int:=
 if 12<t.l.length then 2 else if zeW t.l≠0 then zeW t.l else if zct t.heap≠0 then zct t.heap else if zks t=true then 0 else 7
theorem zrC(l:List zx):(∃k,(List.range l.length).find? (zgQ l)=some k/\zfL l k≠0/\zeW l=zfL l k)\/((List.range l.length).find? (zgQ l)=none/\zeW l=0):=by
 unfold zeW zhX
 cases h:(List.range l.length).find? (zgQ l) with
 | none=>exact .inr ⟨rfl,rfl⟩
 | some k=>
  refine .inl ⟨k,rfl,?_,rfl⟩;have:=List.find?_some h;unfold zgQ at this;simpa using this
def zkt(t:Table):Bool:=decide (t.heap.length=t.l.length)&&t.heap.all fun d=>decide (0<=zab t.l d.2)&&decide ((t.l.getD (zab t.l d.2).toNat zbZ).deadline=d.1)
def zpe(t:Table):Int:=
 if 12<t.l.length then 2 else if zeW t.l≠0 then zeW t.l else if zct t.heap≠0 then zct t.heap else if zkt t=true then 0 else 7
theorem znA(l:List zx)(id:Int): -1<=zab l id/\zab l id<l.length:=znP _ _
theorem zRb(t:Table)(hL:t.l.length<=4294967296)(hH:t.heap.length<=4294967296):zN G [] zn4 ⟨[(1,.ref 1 0 0),(7,.d (.int .i64 0))],[obT 1 t]⟩=some (if (t.heap.all fun d=>decide (0<=zab t.l d.2)&&decide ((t.l.getD (zab t.l d.2).toNat zbZ).deadline=d.1))=true then (.exit 3,⟨[],[]⟩) else (.ret,⟨[(2,.d (.int .i64 7))],[]⟩)):=by
 have hl:=zd5 (G:=G) (x:=zn4) (ks:=[]) t.heap.length (atB t.heap fun d=>decide (0<=zab t.l d.2)&&decide ((t.l.getD (zab t.l d.2).toNat zbZ).deadline=d.1)) (fun k=>⟨[(1,.ref 1 0 0),(7,.d (.int .i64 k))],[obT 1 t]⟩) (.ret,⟨[(2,.d (.int .i64 7))],[]⟩) (.exit 3,⟨[],[]⟩) (fun k hk L=>by
  simp only[zn4,obT]
  by_cases h0:k<t.heap.length
  ·simp only[h0,if_true,zgA h0];have hf:=zmn t t.heap[k].2 hL;have hb:=znA t.l t.heap[k].2;generalize zab t.l t.heap[k].2=i at *
   by_cases c1:0<=i
   ·obtain⟨n,rfl⟩:∃n:Nat,i=n:=⟨i.toNat,by omega⟩;have hn:n<t.l.length:=by omega
    rw[zXb,zq hn,zWY c1,zXR]
    by_cases c2:t.l[n].deadline=t.heap[k].1
    ·rw[zWY c2];simp only[if_true];exact zS
    ·rw[zW0 c2];simp only[zWL,if_false];exact zS
   ·rw[zW0 c1];simp only[zXr,zWL,if_false];exact zS
  ·exact zS)
 have e:(List.range t.heap.length).all (atB t.heap fun d=>decide (0<=zab t.l d.2)&&decide ((t.l.getD (zab t.l d.2).toNat zbZ).deadline=d.1))=t.heap.all fun d=>decide (0<=zab t.l d.2)&&decide ((t.l.getD (zab t.l d.2).toNat zbZ).deadline=d.1):=by
  rw[zXm,zW2,zW2];constructor
  ·intro h x hx;obtain⟨i,hi,rfl⟩:=zYr hx;have:=h i (zXx.2 hi)
   rwa [zgA hi] at this
  ·intro h i hi;rw[zgA (zXx.1 hi)];exact h _ (zWH _)
 rw[e] at hl;exact hl
theorem zkH(t:Table)(hL:t.l.length<=4294967296)(hH:t.heap.length<=4294967296):zh G 128 [.d (zan t)] []=some (.d (.int .i64 (zpe t)),[]):=by
 unfold zpe
 by_cases c0:12<t.l.length
 ·rw[zWz c0];exact zW
 ·rw[zWy c0];have hl:=zRf t zo;have hv:=zoS t.heap hH;have hm:=zRb t hL hH;simp only[obT] at hl hm;unfold zhX at hl
  rcases zrC t.l with ⟨k,h1,h2,h3⟩|⟨h1,h3⟩
  ·rw[h1] at hl;simp only at hl;rw[h3,zWz h2];generalize zfL t.l k=z at *;clear h1 h3 hv hm;exact zW
  ·rw[h1] at hl;rw[h3,zWy (by simp)];clear h1 h3;generalize zct t.heap=z at *
   by_cases c1:z=0
   ·subst c1;rw[zWy (by simp)];unfold zkt
    by_cases c2:t.heap.length=t.l.length
    ·rw[zWY c2,zXR];generalize (t.heap.all fun d=>decide (0<=zab t.l d.2)&&decide ((t.l.getD (zab t.l d.2).toNat zbZ).deadline=d.1))=q at *
     cases q
     ·simp only[zWL,if_false] at hm ⊢;exact zW
     ·simp only[if_true] at hm ⊢;exact zW
    ·rw[zW0 c2,zXr];simp only[zWL,if_false];clear hm;exact zW
   ·rw[zWz c1];clear hm;exact zW
theorem zA5{α:Type}[DecidableEq α]:∀(A B:List α),A.Nodup->(∀a∈A,a∈B)->A.length<=B.length
 | [],_,_,_=>Nat.zero_le _
 | a::A,B,h,hs=>by
  have ha:=hs a (by simp);rw[zXQ] at h;have:=zA5 A (B.erase a) h.2 fun x hx=>(List.mem_erase_of_ne (by rintro rfl;exact h.1 hx)).2 (hs x (by simp [hx]));rw[zZZ ha] at this;have hp:=List.length_pos_of_mem ha;simp only[zWI];omega
theorem zA4{α:Type}[DecidableEq α]{A B:List α}(h:A.Nodup)(hs:∀a∈A,a∈B)(hl:B.length<=A.length):∀b∈B,b∈A:=by
 intro b hb
 by_cases c:b∈A
 ·exact c
 ·have:=zA5 A (B.erase b) h fun x hx=>(List.mem_erase_of_ne (by rintro rfl;exact c hx)).2 (hs x hx);rw[zZZ hb] at this;have hp:=List.length_pos_of_mem hb;omega
theorem zh6{l:List zx}(h:zeW l=0):l.Pairwise fun x y=>x.msg.id<y.msg.id:=by
 have h0:∀i,i<l.length->zfL l i=0:=by
  rcases zrC l with ⟨k,_,h2,h3⟩|⟨h1,_⟩
  ·omega
  ·intro i hi;have:=List.find?_eq_none.1 h1 i (zXx.2 hi);unfold zgQ at this;simpa using this
 have step:∀i (hi:i+1<l.length),l[i].msg.id<l[i+1].msg.id:=fun i hi=>by
  have:=h0 (i+1) hi;unfold zfL at this;rw[zq hi,Nat.add_sub_cancel,zq (show i<l.length by omega)] at this
  split at this
  ·omega
  split at this
  ·omega
  split at this
  ·omega
  split at this
  ·cases this
  ·omega
 refine zXu.2 fun i j hi hj hij=> ?_;obtain⟨m,rfl⟩:∃m,j=i+1+m:=⟨j - (i+1),by omega⟩
 induction m with
 | zero=>exact step i hj
 | succ m ih=>exact Int.lt_trans (ih zo zo) (step (i+1+m) zo)
def zbQ(x:zx):Due:=(x.deadline,x.msg.id)
theorem zlw{l:List zx}{id:Int}(h:0<=zab l id):∃k,∃hk:k<l.length,zab l id=k/\l[k].msg.id=id:=by
 unfold zab zb1 at h ⊢
 cases hf:l.findIdx? (fun x=>decide (x.msg.id=id)) with
 | none=>rw[hf] at h;exact absurd h (by simp)
 | some i=>
  obtain⟨hi,hp,_⟩:=zXP.1 hf;exact⟨i,hi,rfl,by simpa using hp⟩
theorem zqv{l:List zx}{id:Int}(h:zab l id<0):∀x∈l,x.msg.id≠id:=by
 unfold zab zb1 at h
 cases hf:l.findIdx? (fun x=>decide (x.msg.id=id)) with
 | none=>intro x hx;have:=zYR.1 hf x hx;simpa using this
 | some i=>rw[hf] at h;simp only at h;omega
theorem ztJ{l:List zx}(h:l.Pairwise fun x y=>x.msg.id<y.msg.id){i j:Nat}(hi:i<l.length)(hj:j<l.length)(e:l[i].msg.id=l[j].msg.id):i=j:=by
 rw[zXu] at h
 rcases zZf i j with q|q|q
 ·have:=h i j hi hj q;omega
 ·exact q
 ·have:=h j i hj hi q;omega
theorem zqu{l:List zx}(h:l.Pairwise fun x y=>x.msg.id<y.msg.id){k:Nat}(hk:k<l.length):zab l l[k].msg.id=k:=by
 by_cases c:0<=zab l l[k].msg.id
 ·obtain⟨j,hj,e,q⟩:=zlw c;rw[e,ztJ h hj hk q]
 ·exact absurd rfl (zqv zo l[k] (zWH _))
theorem ztK{l:List zx}(h:l.Pairwise fun x y=>x.msg.id<y.msg.id):(l.map zbQ).Nodup:=by
 refine List.Pairwise.map _ ?_ h;intro a b hab e;have:=congrArg Prod.snd e;simp only[zbQ] at this;omega
theorem zAQ{t:Table}(h:t.l.Pairwise fun x y=>x.msg.id<y.msg.id):zkt t=true↔t.heap.length=t.l.length/\∀d∈t.heap,d∈t.l.map zbQ:=by
 unfold zkt;rw[zWS,decide_eq_true_eq,zW2];refine and_congr_right fun _=>forall_congr' fun d=>forall_congr' fun hd=> ?_;rw[zWS,decide_eq_true_eq,decide_eq_true_eq,zWP];constructor
 ·rintro⟨h0,h1⟩;obtain⟨k,hk,e,q⟩:=zlw h0;rw[e,zXb,zq hk] at h1;exact⟨t.l[k],zWH _,Prod.ext h1 q⟩
 ·rintro⟨x,hx,rfl⟩;obtain⟨k,hk,rfl⟩:=zYr hx;simp only[zbQ,zqu h hk];rw[zXb,zq hk];exact⟨by omega,rfl⟩
theorem zrO{t:Table}:zks t=true↔t.heap.length=t.l.length/\∀d∈t.l.map zbQ,d∈t.heap:=by
 unfold zks;rw[zWS,decide_eq_true_eq,zW2];refine and_congr_right fun _=> ?_;constructor
 ·intro h d hd;obtain⟨x,hx,rfl⟩:=zWP.1 hd;obtain⟨y,hy,e⟩:=zXG.1 (h x hx);rw[decide_eq_true_eq] at e;rw[show zbQ x=y from e.symm];exact hy
 ·intro h x hx;exact zXG.2 ⟨_,h _ (zWP.2 ⟨x,hx,rfl⟩),by simp [zbQ]⟩
theorem zAR{t:Table}(h:zeW t.l=0)(hv:zct t.heap=0):zks t=zkt t:=by
 have ha:=zh6 h;have hn:=((zfY _).1 hv).ids;have hh:t.heap.Nodup:=List.Pairwise.of_map (fun d:Due=>d.2) (fun a b h e=>h (by rw[e])) hn;rw[zXm,zAQ ha,zrO];refine and_congr_right fun e=>⟨fun q=> ?_,fun q=> ?_⟩
 ·exact zA4 (ztK ha) q (by simp [e])
 ·exact zA4 hh q (by simp [e])
theorem zk4(t:Table):zpe t=zah t:=by
 unfold zpe zah
 by_cases h:zeW t.l=0
 ·by_cases hv:zct t.heap=0
  ·rw[zAR h hv]
  ·simp only[hv,ne_eq,zXd,if_true]
 ·simp only[h,ne_eq,zXd,if_true]
theorem bytesD_ok(s:List UInt8):zgC (byD s)=some s:=by
 unfold byD
 induction s with
 | nil=>rfl
 | cons b s ih=>
  simp only[zWD,zgC,ih,zXi,zXb];simp
theorem zD8(l:List Int)(hL:l.length<=4000)(n:Nat)(hn:n<=3):∀p:Nat×Nat×List UInt8,p.1<=n/\p.2.2.length=n->∃a' bs,bs.length=n/\zN G [] zq3 ⟨[(0,.ref 1000000 0 0),(3,.osl 7 0 n),(4,.d (.int .i64 p.1)),(1000000,.ref 1000000 1 0)],[(7,.row ((byD p.2.2).map .d)),(1000000,zp l p.2.1)]⟩=some (.exit 0,⟨[(3,.osl 7 0 n),(1000000,.ref 1000000 1 0)],[(7,.row ((byD bs).map .d)),(1000000,zp l a')]⟩):=by
 refine zl0 (fun p:Nat×Nat×List UInt8=>n - p.1) (fun p:Nat×Nat×List UInt8=>p.1<=n/\p.2.2.length=n) (fun p:Nat×Nat×List UInt8=>⟨[(0,.ref 1000000 0 0),(3,.osl 7 0 n),(4,.d (.int .i64 p.1)),(1000000,.ref 1000000 1 0)],[(7,.row ((byD p.2.2).map .d)),(1000000,zp l p.2.1)]⟩) (fun p r=>∃a' bs,bs.length=n/\r=some (.exit 0,⟨[(3,.osl 7 0 n),(1000000,.ref 1000000 1 0)],[(7,.row ((byD bs).map .d)),(1000000,zp l a')]⟩)) fun⟨k,a,bs⟩ ⟨hk,hb⟩ L ih=> ?_;simp only at ih hk hb;simp only[zq3]
 by_cases h0:k<n
 ·have n1:=zbp l a (n:=3) zo;obtain⟨c,hc⟩:∃c:UInt8,(c.toNat:Int)=97+nD l a 3:=⟨UInt8.ofNat (97+nD l a 3).toNat,by rw[UInt8.toNat_ofNat'];omega⟩;have hg:((byD bs).map AV.d)[k]? = some (.d (.int .u8 (bs.getD k 0).toNat)):=by
   unfold byD;simp [zWF (show k<bs.length by omega),show k<bs.length by omega]
  have hs:((byD bs).map AV.d).set k (.d (.int .u8 (97+nD l a 3)))=(byD (bs.set k c)).map AV.d:=by
   unfold byD;rw[<- hc,zXy,zXy]
  obtain⟨a',bs',h1,h2⟩:=ih (k+1,(zau l a).2,bs.set k c) ⟨by simp only;omega,by simp only[zW8];exact hb⟩ (by simp only;omega);refine⟨a',bs',h1,?_⟩;simp only[zNr,zp] at h2;simp -implicitDefEqProofs (maxSteps:=4000000) (disch:=omega) only[go_sem,ze0,hg,hs,h0];exact h2
 ·refine⟨a,bs,hb,?_⟩;simp -implicitDefEqProofs (maxSteps:=4000000) (disch:=omega) only[go_sem,h0]
theorem zpJ(l:List Int)(a:Nat)(hL:l.length<=4000):∃s a',s.length<=3/\zh G 145 [.ref 1000000 0 0] [(1000000,zp l a)]=some (.d (.str s),[(1000000,zp l a')]):=by
 have n1:=zbp l a (n:=4) zo;obtain⟨n,hn⟩:∃n,n=(nD l a 4).toNat:=⟨_,rfl⟩;have e:nD l a 4=(n:Int):=by omega
 obtain⟨a',bs,h1,h2⟩:=zD8 l hL n zo (0,(zau l a).2,List.replicate n 0) ⟨by omega,by simp⟩;have hz:List.replicate n (AV.d (.int .u8 0))=(byD (List.replicate n 0)).map AV.d:=by unfold byD;simp
 refine⟨bs,a',by omega,?_⟩;have hl:(byD bs).length=n:=by unfold byD;simpa using h1
 have ht:List.take n ((byD bs).map AV.d)=(byD bs).map AV.d:=zYp (by simp [hl]);simp only[zNr,zp] at h2
 by_cases h0:n=0
 ·subst h0;have:bs=[]:=zXk.1 h1;subst this;simp only[List.replicate_zero,show byD []=[] from rfl,zWA] at h2;rw[zO zzx (by simp)];simp -implicitDefEqProofs (maxSteps:=4000000) (disch:=omega) only[zm7,go_sem,ze0,e,List.replicate_zero,h2]
 ·have hne:¬(List.map AV.d (byD bs)=[]):=by
     intro e2;have:=congrArg List.length e2;simp [hl] at this;exact h0 this
  rw[zO zzx (by simp)];simp -implicitDefEqProofs (maxSteps:=4000000) (disch:=omega) only[zm7,go_sem,ze0,e,hz,h2,hl,ht,bytesD_ok,hne]
theorem ztQ:∃f:List Int->Nat->List UInt8×Nat,∀l a,l.length<=4000->(f l a).1.length<=3/\zh G 145 [.ref 1000000 0 0] [(1000000,zp l a)]=some (.d (.str (f l a).1),[(1000000,zp l (f l a).2)]):=by
 refine⟨fun l a=>if h:l.length<=4000 then (Classical.choose (zpJ l a h),Classical.choose (zXC (zpJ l a h))) else ([],0),fun l a h=> ?_⟩;simp only[h,dif_pos];exact zXC (zXC (zpJ l a h))
noncomputable def zpI:List Int->Nat->List UInt8×Nat:=Classical.choose ztQ
theorem ztP(l:List Int)(a:Nat)(hL:l.length<=4000):(zpI l a).1.length<=3/\zh G 145 [.ref 1000000 0 0] [(1000000,zp l a)]=some (.d (.str (zpI l a).1),[(1000000,zp l (zpI l a).2)]):=zXC ztQ l a hL
def zCh(live:Int)(i:Nat):Span:=⟨(i:Int) * 65536 / live,((i:Int)+1) * 65536 / live - 1,i⟩
def zpa(live:Int)(k:Nat):List Span:=(List.range k).map (zCh live)
theorem zUw(live:Int)(k:Nat):(zpa live k).length=k:=by simp [zpa]
def zfA(slots live:Nat):zal:=⟨1,zpa live live,List.replicate slots (-1)⟩
def zet(slots live:Int):zal×Int:=if live<1\/slots<live\/6<slots then (zeH,1) else (zfA slots.toNat live.toNat,0)
theorem zFN:∀s l:Nat,1<=l->l<=s->s<=6->zbz (zfA s l)=0/\(∀i,i<s->zaX (zfA s l).l i=if i<l then (i:Int) else -1):=by
 have key:∀s,s<7->∀l,l<7->1<=l->l<=s->zbz (zfA s l)=0/\(∀i,i<s->zaX (zfA s l).l i=if i<l then (i:Int) else -1):=by decide
 intro s l h1 h2 h3;exact key s zo l zo h1 h2
theorem zrU(l:List Int)(a:Nat)(hL:l.length<=4000):zh G 10 [.d (.pd (.agg [.sl (zt l),.int .i64 a]))] []=some (.d (.bool (decide ((a:Int)<l.length))),[]):=by
 exact zW
theorem zUe(l:List Int)(a:Nat)(hL:l.length<=4000):∃x a',(1<=x.slots/\x.slots<=4/\1<=x.live/\x.live<=x.slots/\1<=x.capacity/\x.capacity<=5/\1<=x.dead/\x.dead<=4/\1<=x.limit/\x.limit<=3/\0<=x.clock/\x.clock<=1073741824/\1<=x.nextID/\x.nextID<=1073741824/\0<=x.epoch/\x.epoch<=65536)/\zh G 42 [.ref 1000000 0 0] [(1000000,zp l a)]=some (.d (zaH x),[(1000000,zp l a')]):=by
 obtain⟨a1,q1⟩:∃a1,a1=(zau l a).2:=⟨_,rfl⟩;obtain⟨a2,q2⟩:∃a2,a2=(zau l a1).2:=⟨_,rfl⟩;obtain⟨a3,q3⟩:∃a3,a3=(zau l a2).2:=⟨_,rfl⟩;obtain⟨a4,q4⟩:∃a4,a4=(zau l a3).2:=⟨_,rfl⟩;obtain⟨a5,q5⟩:∃a5,a5=(zau l a4).2:=⟨_,rfl⟩;obtain⟨a6,q6⟩:∃a6,a6=(zau l a5).2:=⟨_,rfl⟩;have n1:=zbp l a (n:=4) zo;have n2:=zbp l a1 (n:=5) zo;have n3:=zbp l a2 (n:=4) zo;have n4:=zbp l a3 (n:=3) zo;have n5:=zbp l a4 (n:=1+nD l a 4 - 1+1) zo;have n6:=zbp l a5 (n:=12) zo;have n7:=zbp l a6 (n:=200) zo;have n8:=zbp l a6 (n:=4) zo;have n9:=zbp l a6 (n:=3) zo
 by_cases c1:nD l a5 12=9
 ·refine⟨⟨1+nD l a 4,1+nD l a4 (1+nD l a 4 - 1+1),1+nD l a1 5,1+nD l a2 4,1+nD l a3 3,1073741824 - nD l a6 200,1,0⟩,(zau l a6).2,by simp only;omega,?_⟩;simp only[zaH];rw[zO znH (by simp)];simp -implicitDefEqProofs (maxSteps:=4000000) (disch:=omega) only[zjN,go_sem,ze0,zmp, <- q1, <- q2, <- q3, <- q4, <- q5, <- q6,c1]
 by_cases c2:nD l a5 12=10
 ·refine⟨⟨1+nD l a 4,1+nD l a4 (1+nD l a 4 - 1+1),1+nD l a1 5,1+nD l a2 4,1+nD l a3 3,0,1073741824 - nD l a6 4,0⟩,(zau l a6).2,by simp only;omega,?_⟩;simp only[zaH];rw[zO znH (by simp)];simp -implicitDefEqProofs (maxSteps:=4000000) (disch:=omega) only[zjN,go_sem,ze0,zmp, <- q1, <- q2, <- q3, <- q4, <- q5, <- q6,c1,c2]
 by_cases c3:nD l a5 12=11
 ·refine⟨⟨1+nD l a 4,1+nD l a4 (1+nD l a 4 - 1+1),1+nD l a1 5,1+nD l a2 4,1+nD l a3 3,0,1,65536 - nD l a6 3⟩,(zau l a6).2,by simp only;omega,?_⟩;simp only[zaH];rw[zO znH (by simp)];simp -implicitDefEqProofs (maxSteps:=4000000) (disch:=omega) only[zjN,go_sem,ze0,zmp, <- q1, <- q2, <- q3, <- q4, <- q5, <- q6,c1,c2,c3]
 ·refine⟨⟨1+nD l a 4,1+nD l a4 (1+nD l a 4 - 1+1),1+nD l a1 5,1+nD l a2 4,1+nD l a3 3,0,1,0⟩,a6,by simp only;omega,?_⟩;simp only[zaH];rw[zO znH (by simp)];simp -implicitDefEqProofs (maxSteps:=4000000) (disch:=omega) only[zjN,go_sem,ze0,zmp, <- q1, <- q2, <- q3, <- q4, <- q5, <- q6,c1,c2,c3]
end Go.Proofs.YtjalkkalhdnplaaGreat

namespace Go.Sim
open Go (World Value Addr TypeId Act Ending Program)
variable {P:Program}
def zDk:AV×zf->Option (AV×zf)
 | (.acc 0 [],[(0,.acc 0)])=>some (.xsl [],[])
 | (.acc 0 (e::es),[(0,.acc n)])=>if n=(e::es).length then some (.osl 0 0 n,[(0,.row ((e::es).map .d))]) else none
 | _=>none
def zSy(F:zaU)(f:FuncId)(args:List AV)(os:zf):Option (AV×zf):=
 if os.isEmpty=true then (F f args os).bind zDk else none
noncomputable def zNR(G:FuncId->Option AFn)(rows done:List FuncId)(f:FuncId):Option AFn:=
 if rows.contains f then some (.ext (zSy (zh G) f)) else if done.contains f then some (.ext (zh G f)) else G f
end Go.Sim
