/-
  Witness.
-/
import Derived.Test.YtcembpbhkcbnhaaGreatB3e4d643
import Derived.Test.YtcembpbhkcbnhaaGreatB9944286
import Derived.Test.YtcembpbhkcbnhaaGreatB15a29b9
set_option linter.unusedSimpArgs false
set_option linter.unusedVariables false
set_option maxHeartbeats 10000000
set_option maxRecDepth 100000
namespace Go.Proofs.YtcembpbhkcbnhaaGreat
open Go Go.Sim
def rinS(l R:List Event)(i j:Nat):St:=⟨[(0,.d (.sl (l.map zaw))),(3,.acc 35 (R.map zaw)),(4,.d (.int .i64 i)),(5,.d (.int .i64 j))],[(35,.acc R.length)]⟩
theorem zamy(l R:List Event)(x:Event)(i:Nat)(hl:l.length<=4294967296)(hL:R.length<=4294967296)(hx:l[i]? = some x):∀j,j<=R.length->z6 G [] zafv (rinS l R i j)=some (.exit 2,rinS l R i (Sort.insJ stF x R j)):=by
 have hi:=zamB hx;have g:(l.map zaw)[i]? = some (zaw x):=by rw[zabI,hx];rfl
 clear hx;refine zaL (fun j=>j) (fun j=>j<=R.length) (fun j=>rinS l R i j) (fun j=>some (.exit 2,rinS l R i (Sort.insJ stF x R j))) fun j hj L ih=> ?_
 cases j with
 | zero=>
  clear ih;simp only[Sort.insJ,rinS,zafv];exact zS
 | succ j=>
  have i1:=ih j zo zo;clear ih;have hJ:Sort.insJ stF x R (j+1)=if x.stamp<R[j].stamp then Sort.insJ stF x R j else j+1:=by
   rw[Sort.insJ,zabx zo]
   by_cases q:x.stamp<R[j].stamp
   ·rw[zabo q,zabo (by simp [stF,q])]
   ·rw[zabn q,zabn (by simp [stF,q])]
  rw[hJ];clear hJ;have e1:((j:Int)+1 - 1).toNat=j:=by omega
  have e2:(j:Int)+1 - 1=j:=by omega
  simp only[rinS,zafv] at i1 ⊢
  by_cases c:x.stamp<R[j].stamp
  ·rw[zabo c];generalize Sort.insJ stF x R j=z at *
   (try simp -implicitDefEqProofs (maxSteps:=4000000) (disch:=omega) only[e1,e2,g,zh,go_sem, *]);(try simp only[zPr]);repeat' (first|done|rfl|((first|refine zad (fun hq=> ?_) (fun hq=> ?_)|refine zaj (fun hq=> ?_) (fun hq=> ?_))<;>(try (first|(exfalso;omega)|contradiction))<;>(try simp -implicitDefEqProofs (maxSteps:=4000000) (disch:=omega) only[e1,e2,g,zh,go_sem, *])<;>(try simp only[zPr])));(all_goals try rfl);(all_goals try (repeat' (first|done|rfl|(exfalso;omega)|contradiction|(refine zae (fun hq=> ?_) (fun hq=> ?_)))))
  ·rw[zabn c]
   (try simp -implicitDefEqProofs (maxSteps:=4000000) (disch:=omega) only[e1,e2,g,zh,go_sem, *]);(try simp only[zPr]);repeat' (first|done|rfl|((first|refine zad (fun hq=> ?_) (fun hq=> ?_)|refine zaj (fun hq=> ?_) (fun hq=> ?_))<;>(try (first|(exfalso;omega)|contradiction))<;>(try simp -implicitDefEqProofs (maxSteps:=4000000) (disch:=omega) only[e1,e2,g,zh,go_sem, *])<;>(try simp only[zPr])));(all_goals try rfl);(all_goals try (repeat' (first|done|rfl|(exfalso;omega)|contradiction|(refine zae (fun hq=> ?_) (fun hq=> ?_)))))
def rouS(l R:List Event)(i:Nat):St:=if R.length=0 then ⟨[(0,.d (.sl (l.map zaw))),(3,.d (.sl [])),(4,.d (.int .i64 i))],[]⟩ else ⟨[(0,.d (.sl (l.map zaw))),(3,.acc 35 (R.map zaw)),(4,.d (.int .i64 i))],[(35,.acc R.length)]⟩
def rouX(R:List Event):St:=if R.length=0 then ⟨[(3,.d (.sl []))],[]⟩ else ⟨[(3,.acc 35 (R.map zaw))],[(35,.acc R.length)]⟩
theorem zamz(l:List Event)(hl:l.length<=4294967296):∀i,i<=l.length->z6 G [] zaf0 (rouS l (Sort.sortS stF (l.take i)) i)=some (.exit 0,rouX (Sort.sortS stF l)):=by
 refine zaL (fun i=>l.length - i) (fun i=>i<=l.length) (fun i=>rouS l (Sort.sortS stF (l.take i)) i) (fun _=>some (.exit 0,rouX (Sort.sortS stF l))) fun i hi L ih=> ?_
 by_cases c:i<l.length
 ·have i1:=ih (i+1) zo zo;clear ih;have hlen:(Sort.sortS stF (l.take i)).length=i:=by rw[Sort.sortS_len,zac9];omega
  have hs:Sort.sortS stF (l.take (i+1))=Sort.insB stF (Sort.sortS stF (l.take i)) l[i]:=by
   rw[zadU,zabx c];simp only[Option.toList];rw[Sort.sortS_snoc]
  have hJ:=Sort.insB_J (f:=stF) l[i] (Sort.sortS stF (l.take i));have hle:=Sort.insJ_le (f:=stF) l[i] (Sort.sortS stF (l.take i)) (Sort.sortS stF (l.take i)).length;have hx:l[i]? = some l[i]:=zabx c;have hri:=zamy l (Sort.sortS stF (l.take i)) l[i] i hl zo hx _ (zabR _);have hnl:(Sort.sortS stF (l.take (i+1))).length=i+1:=by rw[Sort.sortS_len,zac9];omega
  generalize rouX (Sort.sortS stF l)=Z at *;rw[hs] at i1 hnl;rw[hJ] at i1 hnl;clear hs hJ;have g:(l.map zaw)[i]? = some (zaw l[i]):=by rw[zabI,hx];rfl
  generalize l[i]=x at *;generalize Sort.sortS stF (l.take i)=R at *;generalize Sort.insJ stF x R R.length=j at *;have hn0:¬(R.take j++x::R.drop j).length=0:=by omega
  subst hlen;simp only[rouS,hn0,if_false] at i1;clear hn0
  by_cases c0:R.length=0
  ·have hR:R=[]:=zacc.1 c0;subst hR;obtain rfl:j=0:=by simpa using hle
   simp only[rinS,rouS,zabw,if_true,zaf0] at *;simp only[List.take_nil,List.drop_nil,zabJ,zabs,zabq,zabu,zabw] at i1 hri;clear hnl;simp only[zNr,srcO] at i1 hri
   (try simp -implicitDefEqProofs (maxSteps:=4000000) (disch:=omega) only[g,zaC,zafv,zh,go_sem, *]);(try simp only[zPr]);repeat' (first|done|rfl|((first|refine zad (fun hq=> ?_) (fun hq=> ?_)|refine zaj (fun hq=> ?_) (fun hq=> ?_))<;>(try (first|(exfalso;omega)|contradiction))<;>(try simp -implicitDefEqProofs (maxSteps:=4000000) (disch:=omega) only[g,zaC,zafv,zh,go_sem, *])<;>(try simp only[zPr])));(all_goals try rfl);(all_goals try (repeat' (first|done|rfl|(exfalso;omega)|contradiction|(refine zae (fun hq=> ?_) (fun hq=> ?_)))))
  ·simp only[rinS,rouS,c0,if_false,zaf0] at *;clear hnl;rw[show R.take j++x::R.drop j=R.take j++[x]++R.drop j by simp] at i1;simp only[zabF,zabs,zabq,zabv,zac9,zabu,zabw,zadA,zabU] at i1;simp only[zNr,srcO] at i1;exact zS
 ·clear ih;obtain rfl:i=l.length:=by omega
  rw[List.take_length];generalize Sort.sortS stF l=R at *;simp only[rouS,rouX,zaf0]
  by_cases c0:R.length=0
  ·rw[zabo c0,zabo c0];exact zS
  ·rw[zabn c0,zabn c0];exact zS
theorem d7:za8 G 60 16 [.d aL] []=some (.d aL,[]):=by kernel_rfl
theorem d8:za8 G 60 5 [.d aT,.d aL] []=some (.d (.tup [.agg [aN 1,aO,aO,.sl [.agg [aN 1,aN 2,aN 1,aN 1,aN 47383,aN 3]]],aN 2,aO]),[]):=by kernel_rfl
theorem d9:za8 G 60 27 [.d aW4] []=some (.d aO,[]):=by kernel_rfl
theorem d10:za8 G 60 28 [.d aW4] []=some (.d (.bool true),[]):=by kernel_rfl
theorem zaje:zi G 12 [] []=some (.d (.bool true),[]):=by
 have h1:=zGB.2 ⟨60,a1⟩;have h2:=zGB.2 ⟨60,a2⟩;have h3:=zGB.2 ⟨60,a3⟩;have h4:=zGB.2 ⟨60,a4⟩;have h5:=zGB.2 ⟨60,a5⟩;have h6:=zGB.2 ⟨60,a6⟩;have h7:=zGB.2 ⟨60,d7⟩;have h8:=zGB.2 ⟨60,d8⟩;have h9:=zGB.2 ⟨60,d9⟩;have h0:=zGB.2 ⟨60,d10⟩;simp only[aT,aS,aI1,aI2,aW0,aW1,aW2,aW3,aW4,aW,aL,aX,aO,aN,aE] at *;rw[zI zalb (by simp)];simp -implicitDefEqProofs (maxSteps:=4000000) (disch:=omega) only[zagE,zh,go_sem, *];(try simp only[zPr]);repeat' (first|done|rfl|((first|refine zad (fun hq=> ?_) (fun hq=> ?_)|refine zaj (fun hq=> ?_) (fun hq=> ?_))<;>(try (first|(exfalso;omega)|contradiction))<;>(try simp -implicitDefEqProofs (maxSteps:=4000000) (disch:=omega) only[zh,go_sem, *])<;>(try simp only[zPr])));(all_goals try rfl);(all_goals try (repeat' (first|done|rfl|(exfalso;omega)|contradiction|(refine zae (fun hq=> ?_) (fun hq=> ?_)))))
end Go.Proofs.YtcembpbhkcbnhaaGreat
