/-
  The law SnapshotRaw.
-/
import Derived.Test.YtnmcgdpmikhohaaGreatB1b28f4a
import Derived.Test.YtnmcgdpmikhohaaGreatB4b83aab
set_option linter.unusedSimpArgs false
set_option linter.unusedVariables false
set_option maxHeartbeats 10000000
set_option maxRecDepth 100000
namespace Go.Proofs.YtnmcgdpmikhohaaGreat
open Go Go.Sim
theorem zafZ(a:zy)(w:Int):zi G znT [.d (zx a),.d (.int .i64 w)] []=some (.d (.tup [.int .i64 (zgn a w).1,.int .i64 (zgn a w).2]),[]):=by
 unfold zgn;simp only[zx];exact zW zWB
theorem zagT:zi G zaaY [] []=some (.d (zeM zeB),[]):=by
 exact zW zago
theorem zagU(a:zy)(s:zir)(n:Int):zi G zaad [.d (zx a),.d (zeM s),.d (.int .i64 n)] []=some (.d (.tup [zeM (zc7 a s n).1,.int .i64 (zc7 a s n).2]),[]):=by
 have h1:=zafZ a 1;have h2:=zafZ a 2;simp only[zgn,if_true,Int.reduceEq,if_false] at h1 h2;unfold zc7;generalize a.epoch=ep at *;generalize a.clock=ck at *;simp only[zeM] at *;rw[zI zagp (by simp)];simp -implicitDefEqProofs (maxSteps:=4000000) (disch:=omega) only[zaeL,zaeV,zeB,zh,go_sem, *];(try simp only[zPr]);repeat' (first|done|rfl|((first|refine zad (fun hq=> ?_) (fun hq=> ?_)|refine zaj (fun hq=> ?_) (fun hq=> ?_))<;>(try (first|(exfalso;omega)|contradiction))<;>(try simp -implicitDefEqProofs (maxSteps:=4000000) (disch:=omega) only[zeB,zh,go_sem, *])<;>(try simp only[zPr])));(all_goals try rfl);(all_goals try (repeat' (first|done|rfl|(exfalso;omega)|contradiction|(refine zae (fun hq=> ?_) (fun hq=> ?_)))))
theorem zagk:za8 G 60 zabl [] []=some (.d (.bool true),[]):=by kernel_rfl
theorem zagl:zi G zabl [] []=some (.d (.bool true),[]):=zGB.2 ⟨60,zagk⟩
theorem zagY(x:zir)(n:Int)(l:List Int)(hL:l.length<=LIM):zi G zaeF [.d (zeM x),.d (.int .i64 n),.d (.sl (zC l))] []=some (.d (.bool true),[]):=by
 have hnew:=zZ2 l hL;have hl4:(l.take 4000).length<=4000:=by simp;omega
 obtain⟨w,u,a',_,hq,hw⟩:=zaaX (l.take 4000) 0 10 hl4 zo;have hep:=hq.wi.ar.ep;have haw:=zagl;have hz:=zagT;have hz2:=zagV;clear hq;generalize l.take 4000=l4 at *;obtain⟨s,wa,tasks,log,steps,handles⟩:=w;simp only at hep hw;obtain⟨a2,q2⟩:∃a2,(za0 l4 a').2=a2:=⟨_,rfl⟩;obtain⟨a3,q3⟩:∃a3,(za0 l4 a2).2=a3:=⟨_,rfl⟩;have n1:=zgr l4 a' 2 hl4 zo zo;have r1:=zng l4 a2 (-1) 4 hl4 zo zo zo zo;have p1:=z4Y l4 a3 [wa.epoch,wa.epoch - 1] hl4 (by simp) (by simp);rw[q2] at n1;rw[q3] at r1;generalize -1+nD l4 a2 (4 - -1+1)=ph at *;generalize [wa.epoch,wa.epoch - 1].getD (nD l4 a3 ([wa.epoch,wa.epoch - 1].length)).toNat 0=ep at *;obtain⟨y,hy⟩:∃y:zir,(nD l4 a' 2=0/\y={ x with phase:=ph,epoch:=ep }\/¬nD l4 a' 2=0/\y=x):=by
  by_cases q:nD l4 a' 2=0
  ·exact⟨_,.inl ⟨q,rfl⟩⟩
  ·exact⟨_,.inr ⟨q,rfl⟩⟩
 have s1:=zagU wa y n;have s2:=z9q wa y n;generalize zc7 wa y n=r at *;obtain⟨z,e⟩:=r;clear q2 q3 hL hl4;simp only[zC,zabs,zabq] at p1;simp only[zB,zabQ,zadf] at *
 rcases hy with ⟨c,rfl⟩|⟨c,rfl⟩
 ·replace c:=zabA c;simp only[zF,zx,zeM,zeB] at *;exact zW zafK
 ·replace c:=zabt c;simp only[zF,zx,zeM,zeB] at *;exact zW zafK
end Go.Proofs.YtnmcgdpmikhohaaGreat
