/-
  The law ArenaLocks.
-/
import Derived.Test.YtnmcgdpmikhohaaGreatB4bc0851
import Derived.Test.YtnmcgdpmikhohaaGreatB96c7527
import Derived.Test.YtnmcgdpmikhohaaGreatB8993572
set_option linter.unusedSimpArgs false
set_option linter.unusedVariables false
set_option maxHeartbeats 10000000
set_option maxRecDepth 100000
namespace Go.Proofs.YtnmcgdpmikhohaaGreat
open Go Go.Sim
structure PI(u:Setup)(N:Int)(a:zy)(ts:List zq):Prop where
 hu:za3 u=true
 ar:AI u a
 ti:∀t∈ts,TI u N t
 tk:∀t∈ts,∀b∈t.inv.tokens,b.length<=16
 tl:ts.length<=200
 nn:0<=N/\N<=200000
theorem PI.step{u:Setup}{N:Int}{a:zy}{ts:List zq}(h:PI u N a ts)(hN:N<=199999){a':zy}(ha:AI u a'):PI u (N+1) a' ts:=
 { hu:=h.hu,ar:=ha,ti:=fun t ht=>(h.ti t ht).mono zo,tk:=h.tk,tl:=h.tl,nn:=by have:=h.nn;omega }
theorem PI.task{u:Setup}{N:Int}{a:zy}{ts:List zq}(h:PI u N a ts)(hN:N<=199999){i:Nat}(hi:i<ts.length)(e:(zbZ zaB a ts[i] (N+1)).2.2.2=0):PI u (N+1) (zbZ zaB a ts[i] (N+1)).1 (ts.set i (zbZ zaB a ts[i] (N+1)).2.1):=by
 have hn:=h.nn;have hk:=zaab zlh.ok h.hu h.ar (h.ti _ (zabC hi)) (n:=N+1) zo e;have hr:=zQZ ztM a ts[i] (N+1) e;refine { hu:=h.hu,ar:=hk.1,ti:=fun t ht=> ?_,tk:=fun t ht=> ?_,tl:=by rw[zacb];exact h.tl,nn:=by omega }
 ·rcases zmR ht with ht|ht
  ·rw[ht];exact hk.2
  ·exact (h.ti t ht).mono zo
 ·rcases zmR ht with ht|ht
  ·rw[ht,hr.1];exact h.tk _ (zabC hi)
  ·exact h.tk t ht
theorem zahU{d:za7}(h:zcm d=0):d.l.length<=24:=by
 unfold zcm at h
 split at h
 ·cases h
 ·rename_i c;omega
theorem zah8{u:Setup}{a:zy}(hu:za3 u=true)(h:AI u a):FitA a:=by
 have hs:=zny hu;have h1:=h.sl;have h2:=h.st;have h3:=zjZ h.dv;have h4:=zahU h.dd;exact { sl:=by omega,sh:=fun i hi=>zWc (zbT (h.sh _ (zabC hi)).1),st:=by omega,de:=by omega,dl:=by have:=zfN h.dv;omega,df:=by omega }
theorem zait(l:List Int)(c k:Int)(hL:l.length<=LIM):zi G zaeT [.d (.sl (zC l)),.d (.int .i64 c),.d (.int .i64 k)] []=some (.d (.bool true),[]):=by
 have hnew:=zZ2 l hL;have hl4:(l.take 4000).length<=4000:=by simp;omega
 obtain⟨w,u,a',_,hq,hw⟩:=zaaX (l.take 4000) 0 20 hl4 zo;have hfit:=zah8 hq.wi.hu hq.wi.ar;have hlp:=zahK (l.take 4000) hl4 c k ⟨0,a',w.arena⟩ ⟨by simp,hfit⟩;have haw:=zahQ;clear hq hfit hL hl4;generalize l.take 4000=l4 at *;have hwd:zi G zaeV [.ref 1000000 0 0] [(1000000,zB l4 0)]=some (.d (zx w.arena),[(1000000,zB l4 a')]):=by
  clear hlp haw hnew;obtain⟨s,wa,tasks,log,steps,handles⟩:=w;simp only[zF,zx,zB,zadf] at *;exact zW zaif
 clear hw;obtain⟨s,wa,tasks,log,steps,handles⟩:=w;simp only[alS,zB,zabQ,zadf] at *;have sz_wa:=zby wa;generalize zx wa=D_wa at *;exact zW zaie
end Go.Proofs.YtnmcgdpmikhohaaGreat
