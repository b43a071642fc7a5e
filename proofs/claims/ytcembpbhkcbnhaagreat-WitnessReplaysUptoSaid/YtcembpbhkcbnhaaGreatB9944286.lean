/-
  Sorting events.
-/
import Derived.Test.YtcembpbhkcbnhaaGreatB3e4d643
import Derived.Test.YtcembpbhkcbnhaaGreatB2fe99eb
import Derived.Test.YtcembpbhkcbnhaaGreatB00fb7f5
import Derived.Test.YtcembpbhkcbnhaaGreatB15a29b9
import Derived.Test.YtcembpbhkcbnhaaGreatB54fbfdf
set_option linter.unusedSimpArgs false
set_option linter.unusedVariables false
set_option maxHeartbeats 10000000
set_option maxRecDepth 100000
namespace Go.Proofs.YtcembpbhkcbnhaaGreat
open Go Go.Sim
def zc1(s:Setup):World×Int:=if (zbL s).2≠0 then (zbc,(zbL s).2) else ({ zbc with setup:=s,arena:=(zbL s).1 },0)
theorem zMv(s:Setup)(h4:s.slots<=4):zi G 22 [.d (zaJ s)] []=some (.d (.tup [zabc (zc1 s).1,.int .i64 (zc1 s).2]),[]):=by
 have hn:=zMu s h4;unfold zc1;generalize zbL s=r at *;obtain⟨a,e⟩:=r;simp only at *
 by_cases c:e=0
 ·subst c;rw[zabn (by simp)];simp only[zabc,zaJ,zbc,zx,zabq] at *;exact zW
 ·rw[zabo c];replace c:=zabt c;simp only[zabc,zaJ,zbc,zdt,zx,zM,zabq,ze6,zT,zC] at *;exact zW
theorem zaai(w:World)(b:Int)(hc:0<=w.arena.clock/\w.arena.clock<=1073741824)(hs:0<=w.steps/\w.steps<=1000000)(hl:w.log.length<=1000000):zi G 56 [.d (zabc w),.d (.int .i64 b)] []=some (.d (.tup [zabc (zdX w b).1,.int .i64 (zdX w b).2]),[]):=by
 have ht:=zaah w.arena b hc;unfold zdX;generalize zeA w.arena b=r at *;obtain⟨a,e⟩:=r;simp only at *
 by_cases c:e=0
 ·subst c;rw[zabn (by simp)];obtain⟨s,wa,tasks,handles,log,steps⟩:=w;simp only[zabc,zaJ,zx,zaw,zbw,zabq,zabF,zabs] at *;exact zW
 ·rw[zabo c];replace c:=zabt c;simp only[zabc,zaJ,zbc,zdt,zx,zM,zabq,ze6,zT,zC] at *;exact zW
def opL(l:List Task)(k:Nat):List Int:=((List.range k).filter fun i=> !(l.getD i zE).done).map fun i:Nat=>(i:Int)
theorem z4A(l:List Task)(k:Nat)(h:k<l.length):opL l (k+1)=if l[k].done=true then opL l k else opL l k++[(k:Int)]:=by
 unfold opL;rw[zaej,zaek,zabF]
 cases c:l[k].done<;>simp [zacL,zabx h,c]
theorem z4z(l:List Task)(k:Nat):(opL l k).length<=k:=by
 unfold opL;rw[zabE];exact zaca (zacF _ _) (by simp)
def opS(w:World)(k:Nat):St:=⟨[(1,.ref 1 0 0),(3,.acc 3 (zC (opL w.tasks k))),(4,.d (.int .i64 k))],[(1,.row [.d (zabc w)]),(3,.acc (opL w.tasks k).length)]⟩
theorem zML(w:World)(hl:w.tasks.length<=1000):∀k:Nat,k<=w.tasks.length->z6 G [] zAY (opS w k)=some (.exit 0,⟨[(3,.acc 3 (zC (opL w.tasks w.tasks.length)))],[(3,.acc (opL w.tasks w.tasks.length).length)]⟩):=by
 refine zaL (fun k=>w.tasks.length - k) _ _ _ fun k hk L ih=> ?_;simp only[opS,zAY] at ih ⊢
 by_cases h0:k<w.tasks.length
 ·have i1:=ih (k+1) zo zo;clear ih;have hn:=z4z w.tasks k;rw[z4A w.tasks k h0] at i1;generalize opL w.tasks w.tasks.length=z at *;generalize opL w.tasks k=o at *;obtain⟨s,wa,tasks,log,steps,handles⟩:=w;simp only at h0;simp only[zabc] at *
  cases c:tasks[k].done
  ·rw[c] at i1;simp only[zabz,if_false,zC,zabF,zabs,zabq,zabv] at i1 ⊢;simp only[zNr,srcO] at i1;have zk0:=zf.eq_1;exact zS
  ·rw[c] at i1;simp only[if_true] at i1;simp only[zNr,srcO] at i1;have zk0:=zf.eq_1;exact zS
 ·have e:k=w.tasks.length:=by omega
  rw[<- e];clear ih;have h1:(w.tasks.length:Int)<=k:=by omega
  generalize opL w.tasks k=o at *;obtain⟨s,wa,tasks,log,steps,handles⟩:=w;simp only[zabc] at *;clear e;exact zS
theorem zBy(w:World)(hl:w.tasks.length<=1000)(q:opL w.tasks w.tasks.length=[]):zi G 45 [.d (zabc w)] []=some (.xsl [],[]):=by
 have h:=zML w hl 0 zo;have e:opL w.tasks 0=[]:=rfl;simp only[opS,e,zabq,zabw,zabQ] at h;clear e;rw[q] at h;clear q;obtain⟨s,wa,tasks,log,steps,handles⟩:=w;simp only[zabc,zC,zabq,zabw] at *;exact zW
theorem zBx(w:World)(hl:w.tasks.length<=1000)(o1:Int)(o:List Int)(q:opL w.tasks w.tasks.length=o1::o):zi G 45 [.d (zabc w)] []=some (.osl 0 0 (o.length+1),[(0,.row (.d (.int .i64 o1)::(zC o).map .d))]):=by
 have h:=zML w hl 0 zo;have e:opL w.tasks 0=[]:=rfl;simp only[opS,e,zabq,zabw,zabQ] at h;clear e;rw[q] at h;clear q;obtain⟨s,wa,tasks,log,steps,handles⟩:=w;simp only[zabc,zC,zabs,zabq,zabu,zabw] at *;exact zW
theorem zMH(w:World):opL w.tasks w.tasks.length=(zbj w).map fun i:Nat=>(i:Int):=rfl
theorem zBz(w:World):(opL w.tasks w.tasks.length).length=(zbj w).length:=by
 rw[zMH,zabE]
theorem zLP(w:World){i:zaeE}(h4:w.setup.slots<=4)(hl:w.tasks.length<=200)(hT:i.tokens.length<=4294967296)(hB:i.bodies.length<=4294967296):zi G 25 [.d (zabc w),.d (zbg i)] []=some (.d (.tup [zabc (zcJ w i).1,.int .i64 (zcJ w i).2.1,.int .i64 (zcJ w i).2.2]),[]):=by
 have hn:=zBy w zo;have hc:=zBx w zo;have hs:=z9E (w.tasks.length+1) w.steps (i:=i) (s:=w.setup) h4 hT hB;have hol:=zBz w;clear hT hB h4;unfold zcJ;generalize zex (w.tasks.length+1) i w.setup w.steps=r at *;obtain⟨t,e⟩:=r;simp only at *;have sz_i:=zUB i;generalize zbg i=D_i at *
 by_cases c0:200<=w.tasks.length
 ·rw[zabo (Or.inl c0)];clear hn hc hs hol;obtain⟨s,wa,tasks,log,steps,handles⟩:=w;simp only at c0;simp only[zabc,zaJ,zbc,zdt,zx,zM,zabq,ze6,zT,zC] at *;exact zW
 by_cases c1:8<=(zbj w).length
 ·rw[zabo (Or.inr c1)];rw[<- hol] at c1;clear hn hs hol;generalize opL w.tasks w.tasks.length=o at *
  rcases o with _|⟨o1,o⟩
  ·simp at c1
  have h:=hc o1 o rfl;clear hc;obtain⟨s,wa,tasks,log,steps,handles⟩:=w;simp only[zabu] at c0 c1;simp only[zabc,zaJ,zbc,zdt,zx,zM,zabq,ze6,zT,zC] at *;exact zW
 rw[zabn zo];rw[<- hol] at c1;clear hol;generalize opL w.tasks w.tasks.length=o at *
 rcases o with _|⟨o1,o⟩
 ·have h:=hn rfl;clear hn hc c1
  by_cases c2:e=0
  ·subst c2;rw[zabn (by simp)];obtain⟨s,wa,tasks,log,steps,handles⟩:=w;simp only at c0;simp only[zabc,zaJ,zabF,zabs,zabq] at *;have sz_t:=zQ t;generalize zf t=D_t at *;exact zW
  ·rw[zabo c2];replace c2:=zabt c2;obtain⟨s,wa,tasks,log,steps,handles⟩:=w;simp only at c0;simp only[zabc,zaJ,zbc,zdt,zx,zM,zabq,ze6,zT,zC] at *;have sz_t:=zQ t;generalize zf t=D_t at *;exact zW
 ·have h:=hc o1 o rfl;clear hn hc
  by_cases c2:e=0
  ·subst c2;rw[zabn (by simp)];obtain⟨s,wa,tasks,log,steps,handles⟩:=w;simp only[zabu] at c0 c1;simp only[zabc,zaJ,zabF,zabs,zabq] at *;have sz_t:=zQ t;generalize zf t=D_t at *;exact zW
  ·rw[zabo c2];replace c2:=zabt c2;obtain⟨s,wa,tasks,log,steps,handles⟩:=w;simp only[zabu] at c0 c1;simp only[zabc,zaJ,zbc,zdt,zx,zM,zabq,ze6,zT,zC] at *;have sz_t:=zQ t;generalize zf t=D_t at *;exact zW
theorem z9K{K:Tok}(hK:zgF K){u:Setup}{w:World}{i:Nat}(hw:WI u w)(hi:i<w.tasks.length)(hN:w.steps<=999998)(hL:w.log.length<=1000000)(hev:(zbZ K w.arena w.tasks[i] (w.steps+1)).2.2.1.length<=1000)(hres:(zbZ K w.arena w.tasks[i] (w.steps+1)).2.2.2=0->(zbZ K w.arena w.tasks[i] (w.steps+1)).2.1.results=w.tasks[i].results\/∃r:Result,r.tokens.length<=1000/\(zbZ K w.arena w.tasks[i] (w.steps+1)).2.1.results=w.tasks[i].results++[r])(hrl:w.tasks[i].results.length<=1000)(hH:w.handles.length<=10000000)(hb:∀b∈(w.tasks[i]).inv.tokens,b.length<=4294967296):zi G 48 [.d (zabc w),.d (.int .i64 i)] []=some (.d (.tup [zabc (zcO K w i).1,.int .i64 (zcO K w i).2]),[]):=by
 have h:=zaac (n:=w.steps+1) hK hw.hu hw.ar (hw.ts _ (zabC hi)) zo hb;have hs:=hw.st;have hl:=hw.tl;unfold zcO;have e0:w.tasks.getD i zE=w.tasks[i]:=by rw[zab0,zabx hi];rfl
 simp only[e0];clear hw hb e0;generalize hr:zbZ K w.arena w.tasks[i] (w.steps+1)=r at *;obtain⟨a2,t2,ev,e⟩:=r;clear hr;simp only at *
 by_cases c:e=0
 ·subst c;rw[zabn (by simp)];obtain⟨s,wa,tasks,log,steps,handles⟩:=w;simp only at hi hN hL hs hl hH hres hrl;generalize ht:tasks[i]=t at *;obtain⟨u1,u2,u3,u4,u5,u6,u7,u8,u9,w1,w2,w3,w4,w5,w6,w7,w8,w9⟩:=t2;have hres:=hres trivial
  rcases hres with q|⟨x,hx,q⟩
  ·subst q;simp only[zab7,zabq,zadt,zabL];clear hK;simp only[zabc,zaJ,zx,zf,zabF,zabs,zabq] at *;have zk0:=zf.eq_1;have zk1:= @zaC;have zk2:=zmN.eq_1;exact zW
  ·subst q;have hg:(List.map z7 t.results++[D.agg [.int .i64 x.err,.int .i64 x.id,.sl (x.tokens.map zaA),.sl (x.bodies.map .str),.int .i64 x.ready,.int .i64 x.leased,.int .i64 x.moved]])[t.results.length]? = some (D.agg [.int .i64 x.err,.int .i64 x.id,.sl (x.tokens.map zaA),.sl (x.bodies.map .str),.int .i64 x.ready,.int .i64 x.leased,.int .i64 x.moved]):=by
    rw[zacE (by simp)];simp
   simp only[zaeh,zabs,zabq,zaei,zadt,zabL];clear hK;simp only[zabc,zaJ,zx,zf,zabF,zabs,zabq,z7] at *;have zk0:=zf.eq_1;have zk1:=z7.eq_1;have zk2:= @zaC;have zk3:=zmN.eq_1;exact zW
 ·rw[zabo c];replace c:=zabt c;obtain⟨s,wa,tasks,log,steps,handles⟩:=w;simp only at hi hN hL hs hl;generalize ht:tasks[i]=t at *;simp only[zabc,zaJ,zbc,zdt,zx,zM,zabq,ze6,zT,zC] at *;exact zW
theorem z4X{K:Tok}{u:Setup}{w:World}{k:Int}(hw:WI u w)(hstep:∀i:Nat,i<w.tasks.length->zi G 48 [.d (zabc w),.d (.int .i64 i)] []=some (.d (.tup [zabc (zcO K w i).1,.int .i64 (zcO K w i).2]),[])):zi G 55 [.d (zabc w),.d (.int .i64 k)] []=some (.d (.tup [zabc (zc2 K w k).1,.int .i64 (zc2 K w k).2]),[]):=by
 have hl:=hw.tl;have hn:=zBy w zo;have hc:=zBx w zo;have hol:=zBz w;have hoo:=zMH w;unfold zc2;clear hw
 by_cases c:k<0\/((zbj w).length:Int)<=k
 ·rw[zabo c];rw[<- hol] at c;clear hstep hol hoo;generalize opL w.tasks w.tasks.length=o at *;have hz:zabc zbc= .agg [.int .i64 0,.int .i64 0,.int .i64 0,.int .i64 0,.int .i64 0,.int .i64 0,.int .i64 0,.int .i64 0,.sl [],.sl [],.int .i64 0,.int .i64 0,.sl [],.int .i64 0,.sl [],.sl [],.int .i64 0,.int .i64 0,.int .i64 0,.sl [],.sl [],.int .i64 0,.sl []]:=rfl;simp only[hz];clear hz
  rcases o with _|⟨o1,o⟩
  ·have h:=hn rfl;clear hn hc;have sz_w:=za6 w;generalize zabc w=D_w at *
   by_cases c0:k<0
   ·clear c;exact zW
   ·simp only[zabw] at c;have c1:0<=k:=by omega
    clear c;exact zW
  ·have h:=hc o1 o rfl;clear hn hc;simp only[zabu] at c;have sz_w:=za6 w;generalize zabc w=D_w at *
   by_cases c0:k<0
   ·clear c;exact zW
   ·have c1:(o.length:Int)+1<=k:=by omega
    clear c;exact zW
 ·rw[zabn c];have hk:k.toNat<(zbj w).length:=by omega
  have hs:=hstep _ (zMK hk);have hg:(opL w.tasks w.tasks.length)[k.toNat]? = some (((zbj w).getD k.toNat 0:Nat):Int):=by
   rw[hoo,zabI,zab0,zabx hk];rfl
  rw[<- hol] at c hk;generalize (zbj w).getD k.toNat 0=i at *;clear hstep hol hoo;generalize zcO K w i=r at *;obtain⟨r,e⟩:=r;simp only at hs;generalize opL w.tasks w.tasks.length=o at *
  rcases o with _|⟨o1,o⟩
  ·simp at hk
  have h:=hc o1 o rfl;clear hn hc;simp only;have sz_r:=za6 r;generalize zabc r=D_r at *;have sz_w:=za6 w;generalize zabc w=D_w at *;obtain⟨k2,rfl⟩:∃k2:Nat,k=k2:=⟨k.toNat,by omega⟩;simp only[zab5,zabu] at hg c hk;clear c;have hg2:(AV.d (D.int .i64 o1)::(zC o).map AV.d)[k2]? = some (.d (.int .i64 i)):=by
   show (((o1::o).map (D.int .i64)).map AV.d)[k2]? = _;rw[zabI,zabI,hg];rfl
  clear hg;exact zW
def zWr:Go.Sim.Obj:= .row [AV.agg [.d (.int .i64 0),.d (.int .i64 0),.d (.int .i64 0),.d (.int .i64 0),.d (.int .i64 0),.d (.int .i64 0),.d (.int .i64 0),.d (.int .i64 0),.xsl [],.xsl [],.d (.int .i64 0),.d (.int .i64 0),.xsl [],.d (.int .i64 0),.xsl [],.xsl [],.d (.int .i64 0),.d (.int .i64 0),.d (.int .i64 0),.xsl [],.xsl [],.d (.int .i64 0),.xsl []]]
def rnS(l:List Command)(p:Nat×World):St:=⟨[(1,.d (.sl (l.map zaW))),(4,.ref 4 0 0),(6,.ref 6 0 0),(8,.d (.int .i64 p.1))],[(4,zWr),(6,.row [.d (zabc p.2)])]⟩
def rnR(r:World×Int):Option (zX×St):=if r.2=0 then some (.exit 0,⟨[(4,.ref 4 0 0),(6,.ref 6 0 0)],[(4,zWr),(6,.row [.d (zabc r.1)])]⟩) else some (.ret,⟨[(4,.ref 4 0 0),(5,.d (.int .i64 r.2))],[(4,zWr)]⟩)
theorem z70{K:Tok}{l:List Command}(P:Nat->World->Prop)(hl:l.length<=400)(hdo:∀k w,∀c∈l,k<l.length->P k w->zi G 29 [.d (zabc w),.d (zaW c)] []=some (.d (.tup [zabc (doW K w c).1,.int .i64 (doW K w c).2]),[]))(hk:∀k w,∀c∈l,k<l.length->P k w->(doW K w c).2=0->P (k+1) (doW K w c).1):∀p:Nat×World,p.1<=l.length/\P p.1 p.2->z6 G [] zA0 (rnS l p)=rnR (zer K (l.drop p.1) p.2):=by
 refine zaL (fun p:Nat×World=>l.length - p.1) _ _ _ fun⟨k,w⟩ ⟨h1,h2⟩ L ih=> ?_;simp only at h1 h2;simp only[rnS,zA0] at ih ⊢
 by_cases h0:k<l.length
 ·have hd:=hdo k w l[k] (zabC h0) h0 h2;have hke:=hk k w l[k] (zabC h0) h0 h2;have e1:l.drop k=l[k]::l.drop (k+1):=zabX h0;rw[e1];unfold zer;generalize doW K w l[k]=r at *;obtain⟨w2,e⟩:=r;simp only at *
  by_cases c:e=0
  ·subst c;have i1:=ih (k+1,w2) ⟨by simp only;omega,hke rfl⟩ (by simp only;omega);rw[zabn (by simp)];simp only at i1;clear ih hke hdo hk e1;generalize zer K (l.drop (k+1)) w2=z at *;unfold rnR at *;have sz_w:=za6 w;generalize zabc w=D_w at *;have sz_w2:=za6 w2;generalize zabc w2=D_w2 at *;unfold zWr at *;simp only[zNr,srcO] at i1;exact zS
  ·rw[zabo c];clear ih hke hdo hk e1;unfold rnR;rw[zabn c];replace c:=zabt c;have sz_w:=za6 w;generalize zabc w=D_w at *;have sz_w2:=za6 w2;generalize zabc w2=D_w2 at *;unfold zWr at *;exact zS
 ·have e1:l.drop k=[]:=zaeg zo;rw[e1];clear ih hdo hk e1;unfold zer rnR;have sz_w:=za6 w;generalize zabc w=D_w at *;unfold zWr at *;exact zS
theorem z7X{K:Tok}:∀(l:List Command) (w:World),(zer K l w).2≠0->(zer K l w).1=zbc:=by
 intro l
 induction l with
 | nil=>intro w h;exact absurd rfl h
 | cons c l ih=>
  intro w h;unfold zer at h ⊢
  by_cases c1:(doW K w c).2=0
  ·rw[zabn (fun q=>q c1)] at h ⊢;exact ih _ h
  ·rw[zabo c1]
theorem z7V{K:Tok}{s:Setup}{l:List Command}(P:Nat->World->Prop)(h4:s.slots<=4)(hL:l.length<=400)(h0:(zc1 s).2=0->P 0 (zc1 s).1)(hdo:∀k w,∀c∈l,k<l.length->P k w->zi G 29 [.d (zabc w),.d (zaW c)] []=some (.d (.tup [zabc (doW K w c).1,.int .i64 (doW K w c).2]),[]))(hk:∀k w,∀c∈l,k<l.length->P k w->(doW K w c).2=0->P (k+1) (doW K w c).1):zi G 13 [.d (zaJ s),.d (.sl (l.map zaW))] []=some (.d (.tup [zabc (zgw K s l).1,.int .i64 (zgw K s l).2]),[]):=by
 have hn:=zMv s h4;have e0:zgw K s l=if (zc1 s).2≠0 then (zbc,(zc1 s).2) else if 400<l.length then (zbc,2) else zer K l (zc1 s).1:=by
  unfold zgw zc1
  by_cases c:(zbL s).2=0
  ·simp [c]
  ·simp [c]
 rw[e0];clear e0;have hz:zabc zbc= .agg [.int .i64 0,.int .i64 0,.int .i64 0,.int .i64 0,.int .i64 0,.int .i64 0,.int .i64 0,.int .i64 0,.sl [],.sl [],.int .i64 0,.int .i64 0,.sl [],.int .i64 0,.sl [],.sl [],.int .i64 0,.int .i64 0,.int .i64 0,.sl [],.sl [],.int .i64 0,.sl []]:=rfl;generalize zc1 s=r at *;obtain⟨w,e⟩:=r;simp only at *
 by_cases c:e=0
 ·subst c;rw[zabn (by simp)]
  by_cases c1:400<l.length
  ·omega
  ·rw[zabn c1];have h:=z70 P zo hdo hk (0,w) ⟨by simp,h0 rfl⟩;simp only[rnS,zabZ,zabQ] at h;have hre:=z7X (K:=K) l w;clear h0 hdo hk;generalize zer K l w=z at *;obtain⟨z,ze⟩:=z;unfold rnR zWr at h;simp only at *;have sz_w:=za6 w;generalize zabc w=D_w at *
   by_cases c2:ze=0
   ·subst c2;rw[zabo rfl] at h;clear hz hre;have sz_z:=za6 z;generalize zabc z=D_z at *;exact zW
   ·rw[zabn c2] at h;rw[hre c2,hz];clear hz hre;replace c2:=zabt c2;exact zW
 ·rw[zabo c,hz];clear h0 hdo hk hz;replace c:=zabt c;have sz_w:=za6 w;generalize zabc w=D_w at *;exact zW
theorem zT8{K:Tok}{u:Setup}{w:World}{c:Command}(hw:WI u w)(hs:w.steps<=1000000)(hl:w.log.length<=1000000)(hk:c.kind=2):zi G 29 [.d (zabc w),.d (zaW c)] []=some (.d (.tup [zabc (doW K w c).1,.int .i64 (doW K w c).2]),[]):=by
 have ht:=zaai w (zbo 0 (zf4 c.by_ 255)) hw.ar.ck ⟨hw.st,hs⟩ hl;have hm:(if 0<(if 255<c.by_ then 255 else c.by_) then (if 255<c.by_ then 255 else c.by_) else 0)=zbo 0 (zf4 c.by_ 255):=by
  unfold zbo zf4
  by_cases q1:c.by_<255<;>by_cases q2:255<c.by_<;>simp only[q1,q2,if_true,if_false]<;>split<;>omega
 unfold doW;generalize zbo 0 (zf4 c.by_ 255)=m at *;rw[zabn zo,zabo hk];clear hw hs hl;generalize zdX w m=r at *;obtain⟨r,e⟩:=r;simp only at *;obtain⟨k,pk,by_,iv,rf⟩:=c;simp only at *;subst hk;simp only[zaW]
 by_cases c:e=0
 ·subst c;rw[zabo rfl];have sz_r:=za6 r;generalize zabc r=D_r at *;have sz_w:=za6 w;generalize zabc w=D_w at *;exact zW
 ·rw[zabn c];replace c:=zabt c;have sz_r:=za6 r;generalize zabc r=D_r at *;have sz_w:=za6 w;generalize zabc w=D_w at *;exact zW
theorem zT5{K:Tok}{w:World}{c:Command}(h1:¬c.kind=1)(h2:¬c.kind=2)(h3:¬c.kind=3):zi G 29 [.d (zabc w),.d (zaW c)] []=some (.d (.tup [zabc (doW K w c).1,.int .i64 (doW K w c).2]),[]):=by
 unfold doW;rw[zabn h1,zabn h2,zabn h3];obtain⟨k,pk,by_,iv,rf⟩:=c;simp only at *;simp only[zaW];have sz_w:=za6 w;generalize zabc w=D_w at *;exact zW
theorem zT3{K:Tok}{w:World}{c:Command}(h4:w.setup.slots<=4)(hl:w.tasks.length<=200)(hT:c.inv.tokens.length<=4294967296)(hB:c.inv.bodies.length<=4294967296)(hk:c.kind=3)(hr:c.refs=[]):zi G 29 [.d (zabc w),.d (zaW c)] []=some (.d (.tup [zabc (doW K w c).1,.int .i64 (doW K w c).2]),[]):=by
 have h:=zLP w h4 hl hT hB;unfold doW;rw[zabn zo,zabn zo,zabo hk];have e0:¬(0<c.refs.length):=by rw[hr];simp
 simp only[zabn e0];clear e0 hT hB hl h4;obtain⟨k,pk,by_,iv,rf⟩:=c;simp only at *;subst hk hr;generalize zcJ w iv=r at *;obtain⟨r,n,e⟩:=r;simp only at *;simp only[zaW,zbg,zabq] at *
 by_cases c:e=0
 ·subst c;rw[zabo rfl];have sz_r:=za6 r;generalize zabc r=D_r at *;have sz_w:=za6 w;generalize zabc w=D_w at *;exact zW
 ·rw[zabn c];replace c:=zabt c;have sz_r:=za6 r;generalize zabc r=D_r at *;have sz_w:=za6 w;generalize zabc w=D_w at *;exact zW
def RS(t x:Task):Prop:=x.inv=t.inv/\(x.results=t.results\/∃r:Result,(r.tokens.length<=12/\∀b∈r.tokens,b.length<=16)/\x.results=t.results++[r])
theorem RS.same{t x:Task}(h1:x.inv=t.inv)(h2:x.results=t.results):RS t x:=⟨h1,.inl h2⟩
theorem RS.next{t x:Task}(r:Result)(n:Int)(h1:x.inv=t.inv)(h2:x.results=t.results)(h3:r.tokens.length<=12/\∀b∈r.tokens,b.length<=16):RS t (zba x r n):=
 ⟨h1,.inr ⟨r,h3,by show x.results++[r]=_;rw[h2]⟩⟩
theorem zfi{r:Result}(h:r.tokens=[]):r.tokens.length<=12/\∀b∈r.tokens,b.length<=16:=by rw[h];simp
theorem zmt(a:zy)(t:Task)(n:Int)(e:(goT a t n).2.2.2.2=0):(goT a t n).2.1.inv=t.inv/\(goT a t n).2.1.results=t.results:=by
 unfold goT at e ⊢
 split
 ·rename_i c;rw[zabo c] at e;exact absurd e c
 ·exact⟨rfl,rfl⟩
theorem zm6{plan:Task->Pln}(h:∀t,(plan t).2.1.tokens=[])(lo hi:Int)(cells:Task->List Int)(a:zy)(t:Task)(n:Int)(e:(zbf plan lo hi cells a t n).2.2.2=0):RS t (zbf plan lo hi cells a t n).2.1:=by
 unfold zbf zbv at *;simp only at *
 split
 ·rename_i c;rw[zabo c] at e;exact absurd e c
 rename_i c;rw[zabn c] at e;have h0:(if t.pc=0 then zb8 t (cells t) 1 else t).inv=t.inv/\(if t.pc=0 then zb8 t (cells t) 1 else t).results=t.results:=by split<;>exact⟨rfl,rfl⟩
 generalize (if t.pc=0 then zb8 t (cells t) 1 else t)=t' at *;have hg:=zmt a t' n;generalize goT a t' n=g at *
 split
 ·rename_i c;rw[zabo c] at e;exact absurd e c
 rename_i c;have hg:=hg (zabG.1 c)
 split
 ·exact .same (hg.1.trans h0.1) (hg.2.trans h0.2)
 split
 ·exact .same (hg.1.trans h0.1) (hg.2.trans h0.2)
 ·exact .next _ _ (hg.1.trans h0.1) (hg.2.trans h0.2) (zfi (h _))
theorem z5o(a:zy)(t:Task)(n:Int)(e:(zci a t n).2.2.2=0):RS t (zci a t n).2.1:=by
 unfold zci at *;simp only at *
 split
 ·rename_i c;rw[zabo c] at e;exact absurd e c
 rename_i c;rw[zabn c] at e
 split
 ·split
  ·exact .next _ _ rfl rfl (zfi rfl)
  ·exact .same rfl rfl
 rename_i c;rw[zabn c] at e
 split
 ·rename_i c;rw[zabo c] at e;exact absurd e c
 split
 ·exact .same rfl rfl
 ·exact .next _ _ rfl rfl (zfi rfl)
theorem zTn(a:zy)(t:Task)(n:Int)(e:(zdy a t n).2.2.2=0):RS t (zdy a t n).2.1:=by
 unfold zdy at *;simp only at *
 split
 ·rename_i c;rw[zabo c] at e;exact absurd e c
 rename_i c;rw[zabn c] at e
 split
 ·exact .same rfl rfl
 rename_i c;rw[zabn c] at e
 split
 ·rename_i c;rw[zabo c] at e
  split
  ·rename_i c;rw[zabo c] at e;exact absurd e c
  ·exact .same rfl rfl
 rename_i c;rw[zabn c] at e
 split
 ·rename_i c;rw[zabo c] at e
  split
  ·rename_i c;rw[zabo c] at e;exact absurd e c
  ·exact .same rfl rfl
 split
 ·exact .same rfl rfl
 ·exact .next _ _ rfl rfl (zfi rfl)
theorem z7b(a:zy)(t:Task)(n:Int)(e:(zdO a t n).2.2.2=0):RS t (zdO a t n).2.1:=by
 have h:∀t,(zdk t).1.inv=t.inv/\(zdk t).1.results=t.results:=by
  intro t;unfold zdk;simp only
  split
  ·exact⟨rfl,rfl⟩
  split
  ·exact⟨rfl,rfl⟩
  split<;>exact⟨rfl,rfl⟩
 unfold zdO zbv at *;simp only at *
 split
 ·rename_i c;rw[zabo c] at e;exact absurd e c
 rename_i c;rw[zabn c] at e
 split
 ·exact .same rfl rfl
 rename_i c;rw[zabn c] at e;have hg:=zmt a t n;generalize goT a t n=g at *
 split
 ·rename_i c;rw[zabo c] at e;exact absurd e c
 rename_i c;have hg:=hg (zabG.1 c)
 split
 ·exact .same ((h _).1.trans hg.1) ((h _).2.trans hg.2)
 split
 ·exact .same hg.1 hg.2
 split
 ·exact .same hg.1 hg.2
 ·exact .next _ _ hg.1 hg.2 (zfi rfl)
theorem z89(K:Tok)(a:zy)(t:Task)(n:Int)(e:(zdS K a t n).2.2.2=0):RS t (zdS K a t n).2.1:=by
 have h:∀t,(zdn t).1.inv=t.inv/\(zdn t).1.results=t.results:=by
  intro t;unfold zdn;simp only
  split<;>exact⟨rfl,rfl⟩
 unfold zdS zbv at *;simp only at *
 split
 ·rename_i c;rw[zabo c] at e;exact absurd e c
 rename_i c;rw[zabn c] at e
 split
 ·split
  ·exact .next _ _ rfl rfl (zfi rfl)
  ·simp only
   split<;>exact .same rfl rfl
 rename_i c;rw[zabn c] at e
 split
 ·exact .same rfl rfl
 rename_i c;rw[zabn c] at e;have hg:=zmt a t n;generalize goT a t n=g at *
 split
 ·rename_i c;rw[zabo c] at e;exact absurd e c
 rename_i c;have hg:=hg (zabG.1 c)
 split
 ·exact .same ((h _).1.trans hg.1) ((h _).2.trans hg.2)
 split
 ·exact .same hg.1 hg.2
 split
 ·exact .same hg.1 hg.2
 ·exact .next _ _ hg.1 hg.2 (zfi rfl)
theorem z8V(K:Tok)(a:zy)(t:Task)(n:Int)(e:(zdQ K a t n).2.2.2=0):RS t (zdQ K a t n).2.1:=by
 have h:∀t,(zdm K t).1.inv=t.inv/\(zdm K t).1.results=t.results:=by
  intro t;unfold zdm;simp only
  split
  ·exact⟨rfl,rfl⟩
  split
  ·split<;>exact⟨rfl,rfl⟩
  ·exact⟨rfl,rfl⟩
 unfold zdQ zbv at *;simp only at *
 split
 ·rename_i c;rw[zabo c] at e;exact absurd e c
 rename_i c;rw[zabn c] at e
 split
 ·split
  ·exact .next _ _ rfl rfl (zfi rfl)
  ·exact .same rfl rfl
 rename_i c;rw[zabn c] at e
 split
 ·rename_i c;rw[zabo c] at e
  split
  ·rename_i c;rw[zabo c] at e;exact absurd e c
  ·simp only
   split<;>exact .same rfl rfl
 rename_i c;rw[zabn c] at e
 split
 ·exact .same rfl rfl
 rename_i c;rw[zabn c] at e;have hg:=zmt a t n;generalize goT a t n=g at *
 split
 ·rename_i c;rw[zabo c] at e;exact absurd e c
 rename_i c;have hg:=hg (zabG.1 c)
 split
 ·exact .same ((h _).1.trans hg.1) ((h _).2.trans hg.2)
 split
 ·exact .same hg.1 hg.2
 split
 ·exact .next _ _ hg.1 hg.2 (zfi rfl)
 split
 ·exact .next _ _ hg.1 hg.2 (zfi rfl)
 ·exact .same hg.1 hg.2
theorem z64{K:Tok}(hK:∀h,(K.enc h).1.length<=16)(a:zy)(t:Task)(n:Int)(e:(zdN K a t n).2.2.2=0):RS t (zdN K a t n).2.1:=by
 have h:∀t,(zdj t).1.inv=t.inv/\(zdj t).1.results=t.results:=by
  intro t;unfold zdj;simp only
  split
  ·exact⟨rfl,rfl⟩
  split
  ·exact⟨rfl,rfl⟩
  split
  ·exact⟨rfl,rfl⟩
  split<;>exact⟨rfl,rfl⟩
 have ht:∀t,(zib K t).tokens.length<=12/\∀b∈(zib K t).tokens,b.length<=16:=by
  intro t;unfold zib;simp only[zabE];refine⟨zQV _ _ _ _ _ _,fun b hb=> ?_⟩;obtain⟨y,_,rfl⟩:=zaby.1 hb;exact hK _
 unfold zdN zbv at *;simp only at *
 split
 ·rename_i c;rw[zabo c] at e;exact absurd e c
 rename_i c;rw[zabn c] at e
 split
 ·exact .same rfl rfl
 rename_i c;rw[zabn c] at e
 split
 ·exact .same rfl rfl
 rename_i c;rw[zabn c] at e;have hg:=zmt a t n;generalize goT a t n=g at *
 split
 ·rename_i c;rw[zabo c] at e;exact absurd e c
 rename_i c;have hg:=hg (zabG.1 c)
 split
 ·exact .same ((h _).1.trans hg.1) ((h _).2.trans hg.2)
 split
 ·exact .same hg.1 hg.2
 split
 ·exact .next _ _ hg.1 hg.2 (zfi rfl)
 split
 ·exact .next _ _ hg.1 hg.2 (zfi rfl)
 split
 ·exact .next _ _ hg.1 hg.2 (ht _)
 ·exact .same hg.1 hg.2
theorem zQZ{K:Tok}(hK:∀h,(K.enc h).1.length<=16)(a:zy)(t:Task)(n:Int)(e:(zbZ K a t n).2.2.2=0):RS t (zbZ K a t n).2.1:=by
 have steal_tk:∀t,(zey t).2.1.tokens=[]:=by
  intro t;unfold zey;simp only;split
  ·rfl
  split<;>rfl
 have split_tk:∀t,(zew t).2.1.tokens=[]:=by
  intro t;unfold zew;simp only;split<;>rfl
 have merge_tk:∀t,(zek t).2.1.tokens=[]:=by
  intro t;unfold zek;simp only;split<;>rfl
 have sweep_tk:∀t,(zdW t).2.1.tokens=[]:=by
  intro t;unfold zdW;simp only;split
  ·rfl
  split
  ·rfl
  split
  ·rfl
  split<;>rfl
 have bury_tk:∀t,(zdx t).2.1.tokens=[]:=by
  intro t;unfold zdx;simp only;split
  ·rfl
  split<;>rfl
 unfold zbZ at *
 by_cases c:t.done=true
 ·rw[zabo c] at e;exact absurd e (by decide)
 rw[zabn c] at e ⊢
 by_cases c0:t.inv.kind=1
 ·rw[zabo c0] at e ⊢; exact z8V K a t n e
 rw[zabn c0] at e ⊢
 by_cases c1:t.inv.kind=2
 ·rw[zabo c1] at e ⊢; exact z64 hK a t n e
 rw[zabn c1] at e ⊢
 by_cases c2:3<=t.inv.kind/\t.inv.kind<=5
 ·rw[zabo c2] at e ⊢; exact z89 K a t n e
 rw[zabn c2] at e ⊢
 by_cases c3:t.inv.kind=6
 ·rw[zabo c3] at e ⊢; exact z5o a t n e
 rw[zabn c3] at e ⊢
 by_cases c4:t.inv.kind=7
 ·rw[zabo c4] at e ⊢; exact zTn a t n e
 rw[zabn c4] at e ⊢
 by_cases c5:t.inv.kind=8
 ·rw[zabo c5] at e ⊢; exact z7b a t n e
 rw[zabn c5] at e ⊢
 by_cases c6:t.inv.kind=9
 ·rw[zabo c6] at e ⊢; exact zm6 steal_tk _ _ _ a t n e
 rw[zabn c6] at e ⊢
 by_cases c7:t.inv.kind=10
 ·rw[zabo c7] at e ⊢; exact zm6 split_tk _ _ _ a t n e
 rw[zabn c7] at e ⊢
 by_cases c8:t.inv.kind=11
 ·rw[zabo c8] at e ⊢; exact zm6 merge_tk _ _ _ a t n e
 rw[zabn c8] at e ⊢
 by_cases c9:t.inv.kind=12\/t.inv.kind=13
 ·rw[zabo c9] at e ⊢; exact zm6 sweep_tk _ _ _ a t n e
 rw[zabn c9] at e ⊢
 by_cases c10:t.inv.kind=14
 ·rw[zabo c10] at e ⊢; exact zm6 bury_tk _ _ _ a t n e
 rw[zabn c10] at e ⊢;exact absurd e (by decide)
theorem zU1{i:zaeE}{s:Setup}(h:zbM i s=0):zcX i<=6:=by
 unfold zbM at h;unfold zcX
 by_cases c1:i.kind=1
 ·rw[zabo c1] at h ⊢
  by_cases c:i.bodies.length=0\/6<i.bodies.length
  ·rw[zabo c] at h;cases h
  ·omega
 rw[zabn c1] at h ⊢
 by_cases c3:3<=i.kind/\i.kind<=5
 ·rw[zabn zo,zabo c3] at h;rw[zabo c3]
  by_cases c:i.tokens.length=0\/6<i.tokens.length
  ·rw[zabo c] at h;cases h
  ·omega
 ·rw[zabn c3];decide
structure QI(u:Setup)(B:Int)(w:World):Prop where
 wi:WI u w
 lb:LB B w
 hl:(w.handles.length:Int)<=12 * w.steps
 hb:∀b∈w.handles,b.length<=16
 tk:∀t∈w.tasks,t.results.length<=6/\∀b∈t.inv.tokens,b.length<=16
theorem QI.mono{u:Setup}{B C:Int}{w:World}(h:QI u B w)(hb:B<=C):QI u C w:={ h with lb:=h.lb.mono hb }
theorem z9O{K:Tok}(hK:zis K)(hE:∀h,(K.enc h).1.length<=16){u:Setup}{B:Int}{w:World}{i:Nat}(h:QI u B w)(hi:i<w.tasks.length)(e:(zcO K w i).2=0):QI u (B+1) (zcO K w i).1:=by
 refine { wi:=z9M hK h.wi hi e,lb:=z9N h.lb e,hl:= ?_,hb:= ?_,tk:= ?_ }
 all_goals
  have ht:=h.tk (w.tasks.getD i zE) (by rw[zh hi];exact zabC hi);have hT:=h.wi.ts (w.tasks.getD i zE) (by rw[zh hi];exact zabC hi);have h1:=h.hl;have h2:=h.hb;have h3:=h.tk;have hr:=zQZ hE w.arena (w.tasks.getD i zE) (w.steps+1);have hd:(zbZ K w.arena (w.tasks.getD i zE) (w.steps+1)).2.2.2=0->(w.tasks.getD i zE).done=false:=by
   intro q
   cases hq:(w.tasks.getD i zE).done with
   | false=>rfl
   | true=>unfold zbZ at q;rw[zabo hq] at q;exact absurd q (by decide)
  unfold zcO at e ⊢;simp only at e ⊢;generalize w.tasks.getD i zE=t at *;generalize zbZ K w.arena t (w.steps+1)=r at *
  by_cases c:r.2.2.2=0
  rotate_left
  ·rw[zabo c] at e;exact absurd e c
  rw[zabn (fun q=>q c)];obtain⟨q1,q2⟩:=hr c;have hent:=hT.e1 (hd c);have hres:=hT.e2;have hsix:=zU1 hT.iv;clear hr hd e c;simp only
 ·rcases q2 with q2|⟨x,hx,q2⟩
  ·rw[q2];simp only[zab7,zabq,zadt,zabL];omega
  ·rw[q2];simp only[zaeh,zabs,zabq,zaei,zadt,zabL,zabv];omega
 ·intro b hb
  rcases zabS.1 hb with hb|hb
  ·exact h2 b hb
  ·rcases q2 with q2|⟨x,hx,q2⟩
   ·rw[q2] at hb;simp only[zab7,zabq,zadt] at hb;cases hb
   ·rw[q2] at hb;simp only[zaeh,zabs,zabq,zaei,zadt,zabL] at hb;exact hx.2 b hb
 ·intro x hx
  rcases zmR hx with hx|hx
  ·rw[hx,q1];refine⟨?_,ht.2⟩
   rcases q2 with q2|⟨x,hx,q2⟩
   ·rw[q2];omega
   ·rw[q2,zabv,zab3];omega
  ·exact h3 x hx
theorem zMV{K:Tok}(hK:zis K)(hE:∀h,(K.enc h).1.length<=16){u:Setup}{B:Int}{w:World}{k:Int}(h:QI u B w)(e:(zc2 K w k).2=0):QI u (B+1) (zc2 K w k).1:=by
 unfold zc2 at e ⊢
 by_cases c:k<0\/((zbj w).length:Int)<=k
 ·rw[zabo c] at e;cases e
 ·rw[zabn c] at e ⊢;exact z9O hK hE h (zMK zo) e
theorem zaal{u:Setup}{B:Int}{w:World}{by_:Int}(h:QI u B w)(e:(zdX w by_).2=0):QI u (B+1) (zdX w by_).1:=by
 have h1:=zaaj h.wi e;have h2:=zaak h.lb e;have h3:=h.hl;unfold zdX at e h1 h2 ⊢
 by_cases c:(zeA w.arena by_).2=0
 ·rw[zabn (fun q=>q c)] at h1 h2 ⊢;exact { wi:=h1,lb:=h2,hl:=by simp only;omega,hb:=h.hb,tk:=h.tk }
 ·rw[zabo c] at e;exact absurd e c
theorem zYa{u:Setup}{B:Int}{w:World}{i:zaeE}(h:QI u B w)(hi:∀b∈i.tokens,b.length<=16)(e:(zcJ w i).2.2=0):QI u B (zcJ w i).1:=by
 have h1:=zX8 h.wi e;have h2:=zX9 h.lb e;unfold zcJ at e h1 h2 ⊢
 by_cases c:200<=w.tasks.length\/8<=(zbj w).length
 ·rw[zabo c] at e;cases e
 rw[zabn c] at e h1 h2 ⊢
 by_cases c2:(zex (w.tasks.length+1) i w.setup w.steps).2=0
 ·rw[zabn (fun q=>q c2)] at h1 h2 ⊢;refine { wi:=h1,lb:=h2,hl:=h.hl,hb:=h.hb,tk:=fun t ht=> ?_ }
  rcases zabS.1 ht with ht|ht
  ·exact h.tk t ht
  ·rw[zab1.1 ht];unfold zex
   split
   ·exact⟨by simp [zE],by simp [zE,zfA]⟩
   split
   ·exact⟨by simp [zE],by simp [zE,zfA]⟩
   split
   ·exact⟨by simp [zE],by simp [zE,zfA]⟩
   ·exact⟨by simp [zE],hi⟩
 ·rw[zabo c2] at e;exact absurd e c2
theorem zaaz{K:Tok}(hE:∀h,(K.enc h).1.length<=16){r:Ref}{hs:List (List UInt8)}(h1:r.raw.length<=16)(h2:∀b∈hs,b.length<=16):(zeZ K r hs).length<=16:=by
 have hb:∀k,(hs.getD k []).length<=16:=fun k=>by
  rw[zab0]
  cases hq:hs[k]? with
  | none=>simp
  | some b=>exact h2 b (zabK hq)
 unfold zeZ;simp only;generalize ((zbo r.index 0).tmod hs.length).toNat=k
 split
 ·exact h1
 split
 ·exact hb k
 split
 ·rw[zacb];exact hb k
 split
 ·generalize (if r.variant=2 then ({ (K.par (hs.getD k [])).1 with gen:=(K.par (hs.getD k [])).1.gen+1 }:za1) else if r.variant=3 then { (K.par (hs.getD k [])).1 with gen:=(K.par (hs.getD k [])).1.gen - 1 } else { (K.par (hs.getD k [])).1 with route:=((K.par (hs.getD k [])).1.route+1).tmod 65536 })=h
  split
  ·exact hb k
  ·exact hE h
 ·exact hb k
theorem z9Q{u:Setup}{B:Int}{w:World}{i:Nat}(h:QI u B w)(hB:B<=200000)(hi:i<w.tasks.length):zi G 48 [.d (zabc w),.d (.int .i64 i)] []=some (.d (.tup [zabc (zcO zaB w i).1,.int .i64 (zcO zaB w i).2]),[]):=by
 have h1:=h.lb.st;have h2:=h.lb.lg;have h3:=h.hl;have h4:=h.tk _ (zabC hi);have hr:=zQZ ztM w.arena w.tasks[i] (w.steps+1);refine z9K zlh h.wi hi zo zo ?_ (fun q=> ?_) zo zo (fun b hb=> ?_)
 ·have:=zQY zaB w.arena w.tasks[i] (w.steps+1);omega
 ·rcases (hr q).2 with q2|⟨x,hx,q2⟩
  ·exact .inl q2
  ·exact .inr ⟨x,by omega,q2⟩
 ·have:=h4.2 b hb;omega
theorem z4Z{u:Setup}{B:Int}{w:World}{k:Int}(h:QI u B w)(hB:B<=200000):zi G 55 [.d (zabc w),.d (.int .i64 k)] []=some (.d (.tup [zabc (zc2 zaB w k).1,.int .i64 (zc2 zaB w k).2]),[]):=
 z4X h.wi fun i hi=>z9Q h hB hi
noncomputable def pkR(c:Command):Nat->World->Option (zX×St)
 | 0,w=>some (.exit 1,⟨[(2,.ref 2 0 0),(4,.ref 4 0 0)],[(2,.row [.d (zabc w)]),(4,zWr)]⟩)
 | n+1,w=>if (zbj w).length=0 then some (.ret,⟨[(4,.ref 4 0 0),(5,.d (.int .i64 0))],[(4,.row [.d (zabc w)])]⟩) else if (zc2 zaB w ((zbo c.pick 0).tmod (zbj w).length)).2≠0 then some (.ret,⟨[(4,.ref 4 0 0),(5,.d (.int .i64 (zc2 zaB w ((zbo c.pick 0).tmod (zbj w).length)).2))],[(4,zWr)]⟩) else pkR c n (zc2 zaB w ((zbo c.pick 0).tmod (zbj w).length)).1
theorem z42(c:Command):∀(n:Nat) (w:World),(∃w',zh6 zaB c.pick n w=(w',0)/\(pkR c n w=some (.exit 1,⟨[(2,.ref 2 0 0),(4,.ref 4 0 0)],[(2,.row [.d (zabc w')]),(4,zWr)]⟩)\/pkR c n w=some (.ret,⟨[(4,.ref 4 0 0),(5,.d (.int .i64 0))],[(4,.row [.d (zabc w')])]⟩)))\/(∃e,e≠0/\zh6 zaB c.pick n w=(zbc,e)/\pkR c n w=some (.ret,⟨[(4,.ref 4 0 0),(5,.d (.int .i64 e))],[(4,zWr)]⟩)):=by
 intro n
 induction n with
 | zero=>intro w;exact .inl ⟨w,rfl,.inl rfl⟩
 | succ n ih=>
  intro w;unfold zh6 pkR
  by_cases c1:(zbj w).length=0
  ·rw[zabo c1,zabo c1];exact .inl ⟨w,rfl,.inr rfl⟩
  rw[zabn c1,zabn c1]
  by_cases c2:(zc2 zaB w ((zbo c.pick 0).tmod (zbj w).length)).2=0
  ·rw[zabn (fun q=>q c2),zabn (fun q=>q c2)];exact ih _
  ·rw[zabo c2,zabo c2];exact .inr ⟨_,c2,rfl,rfl⟩
def pkS(c:Command)(m:Nat)(p:Nat×World):St:=⟨[(2,.ref 2 0 0),(3,.ref 3 0 0),(4,.ref 4 0 0),(6,.d (.int .i64 m)),(7,.d (.int .i64 p.1))],[(2,.row [.d (zabc p.2)]),(3,.row [.d (zaW c)]),(4,zWr)]⟩
theorem z43{u:Setup}{c:Command}{m:Nat}(hm:m<=255){B:Int}(hB:B<=102000):∀p:Nat×World,(p.1<=m/\QI u (B+p.1) p.2)->z6 G [] zAZ (pkS c m p)=pkR c (m - p.1) p.2:=by
 refine zaL (fun p:Nat×World=>m - p.1) _ _ _ fun⟨k,w⟩ ⟨h1,h2⟩ L ih=> ?_;simp only at h1 h2;simp only[pkS,zAZ] at ih ⊢
 by_cases h0:k<m
 ·have hk:=h2.wi.tl;have hn:=zBy w zo;have hc:=zBx w zo;have hol:=zBz w;have e1:m - k=(m - (k+1))+1:=by omega
  rw[e1];unfold pkR
  by_cases c1:(zbj w).length=0
  ·rw[zabo c1];rw[<- hol] at c1;have h:=hn (zacc.1 c1);clear hn hc ih h2 hol c1 e1 hk;have sz_w:=za6 w;generalize zabc w=D_w at *;simp only[zaW];unfold zWr;exact zS
  ·rw[zabn c1];have hp:=z4Z (k:=(zbo c.pick 0).tmod (zbj w).length) h2 zo;have hq:=zMV zlh.ok ztM (k:=(zbo c.pick 0).tmod (zbj w).length) h2;have hmx:(if c.pick<0 then 0 else c.pick)=zbo c.pick 0:=by
    unfold zbo;rfl
   generalize zbo c.pick 0=y at *;rw[<- hol] at *;generalize hO:opL w.tasks w.tasks.length=o at *
   rcases o with _|⟨o1,o⟩
   ·exact absurd rfl c1
   have h:=hc o1 o rfl;generalize zc2 zaB w (y.tmod ((o1::o).length:Int))=r at *;obtain⟨w2,e⟩:=r;simp only[zabu] at hp hq c1
   by_cases c2:e=0
   ·subst c2;have i1:=ih (k+1,w2) ⟨by simp only;omega,by have:=hq rfl;rw[show B+((k+1:Nat):Int)=B+k+1 by omega];exact this⟩ (by simp only;omega);rw[zabn (by simp)];simp only at i1;clear hn hc ih h2 hol c1 e1 hk hq hO;generalize pkR c (m - (k+1)) w2=z at *;have sz_w:=za6 w;generalize zabc w=D_w at *;have sz_w2:=za6 w2;generalize zabc w2=D_w2 at *;obtain⟨ck,pk,by_,iv,rf⟩:=c;simp only[zaW] at *;unfold zWr at *;simp only[zNr,srcO] at i1 hp;exact zS
   ·rw[zabo c2];replace c2:=zabt c2;clear hn hc ih h2 hol c1 e1 hk hq hO;have sz_w:=za6 w;generalize zabc w=D_w at *;have sz_w2:=za6 w2;generalize zabc w2=D_w2 at *;obtain⟨ck,pk,by_,iv,rf⟩:=c;simp only[zaW] at *;unfold zWr at *;simp only[zNr,srcO] at hp;exact zS
 ·have e1:m - k=0:=by omega
  rw[e1];clear ih h2;unfold pkR;have sz_w:=za6 w;generalize zabc w=D_w at *;simp only[zaW];unfold zWr;exact zS
theorem zT6{u:Setup}{B:Int}{w:World}{c:Command}(h:QI u B w)(hB:B<=102000)(hk:c.kind=1):zi G 29 [.d (zabc w),.d (zaW c)] []=some (.d (.tup [zabc (doW zaB w c).1,.int .i64 (doW zaB w c).2]),[]):=by
 have hm:(if 0<(if 255<c.by_ then 255 else c.by_) then (if 255<c.by_ then 255 else c.by_) else 0)=zbo 0 (zf4 c.by_ 255):=by
  unfold zbo zf4
  by_cases q1:c.by_<255<;>by_cases q2:255<c.by_<;>simp only[q1,q2,if_true,if_false]<;>split<;>omega
 have hb:=zDQ c.by_;have h0:0<=zbo 0 (zf4 c.by_ 255):=by unfold zbo;split<;>omega
 unfold doW;simp only;generalize zbo 0 (zf4 c.by_ 255)=m at *;obtain⟨n,rfl⟩:∃n:Nat,m=n:=⟨m.toNat,by omega⟩;rw[zabo hk];simp only[zab5] at *;have hl:=z43 (c:=c) hb hB (0,w) ⟨by simp,by simpa using h⟩;have hc:=z42 c n w;simp only[pkS,zacO,zabQ] at hl;clear h hb;obtain⟨k,pk,by_,iv,rf⟩:=c;simp only at *;subst hk
 rcases hc with ⟨v,hp,hr⟩|⟨e,he,hp,hr⟩
 ·rw[hp]
  rcases hr with hr|hr
  all_goals
   rw[hr] at hl;clear hp hr;simp only;have sz_w:=za6 w;generalize zabc w=D_w at *;have sz_v:=za6 v;generalize zabc v=D_v at *;simp only[zaW] at *;unfold zWr at *
  ·exact zW
  ·exact zW
 ·rw[hp];rw[hr] at hl;have hz:zabc zbc= .agg [.int .i64 0,.int .i64 0,.int .i64 0,.int .i64 0,.int .i64 0,.int .i64 0,.int .i64 0,.int .i64 0,.sl [],.sl [],.int .i64 0,.int .i64 0,.sl [],.int .i64 0,.sl [],.sl [],.int .i64 0,.int .i64 0,.int .i64 0,.sl [],.sl [],.int .i64 0,.sl []]:=rfl;simp only[hz];clear hp hr hz;replace he:=zabt he;have sz_w:=za6 w;generalize zabc w=D_w at *;simp only[zaW] at *;unfold zWr at *;exact zW
theorem xor8:∀n:Fin 256,zjp .u8 (n.val:Int) 1=((UInt8.ofNat n.val ^^^ 1).toNat:Int):=by decide+kernel
theorem zaba(v:UInt8):zjp .u8 (v.toNat:Int) 1=((v ^^^ 1).toNat:Int):=by
 have:=xor8 ⟨v.toNat,v.toNat_lt⟩;simp only[UInt8.ofNat_toNat] at this;exact this
theorem zaaA(r:Ref)(hs:List (List UInt8))(hl:hs.length<=10000000)(hb:∀b∈hs,b.length<=16):zi G 57 [.d (zhE r),.d (.sl (hs.map zaA))] []=some (.d (zaA (zeZ zaB r hs)),[]):=by
 obtain⟨ri,rv,rr⟩:=r;have hmx:(if ri<0 then 0 else ri)=zbo ri 0:=by
  unfold zbo;rfl
 unfold zeZ;simp only[zhE]
 by_cases c7:rv=7
 ·subst c7;rw[zabo (by simp)];clear hb hmx;simp only[zaA];generalize byD rr=R;exact zW
 by_cases c0:hs.length=0
 ·rw[zabo (.inr c0)];have:=zacc.1 c0;subst this;clear hb hmx;replace c7:=zabt c7;simp only[zaA,zabq];exact zW
 rw[zabn (by simp only[not_or];exact⟨c7,c0⟩)];have hn0:0<=zbo ri 0:=by unfold zbo;split<;>omega
 generalize zbo ri 0=y at *;obtain⟨k,hk⟩:∃k:Nat,y.tmod hs.length=k:=⟨(y.tmod hs.length).toNat,by have:=zadS (hs.length:Int) hn0;omega⟩;have hkl:k<hs.length:=by have:=zadT y (b:=hs.length) zo;omega
 rw[hk,zab5];have hg:hs.getD k []=hs[k]:=zh hkl;have hg2:(hs.map zaA)[k]? = some (zaA hs[k]):=by rw[zabI,zabx hkl];rfl
 rw[hg];have hbl:=hb _ (zabC hkl);have hlen:(hs.map zaA).length=hs.length:=zabE _;generalize hs[k]=b at *;have hp:=zlh.pa b zo;have hq:=zaag b;have hq2:=zlh.ok.par b;generalize zaB.par b=p at *;obtain⟨h,e⟩:=p;simp only at hp hq hq2 ⊢;clear hg hb;generalize hs.map zaA=H at *;replace c7:=zabt c7;have hbd:(byD b).length=b.length:=by unfold byD;simp
 have en:=zlh.en;simp only[zat,zaA] at hp hg2 en ⊢
 by_cases ce:e=0
 ·subst ce;obtain⟨q1,q2,q3⟩:=hq rfl;obtain⟨⟨q4,q5⟩,_⟩:=hq2 rfl;rw[zabn (by simp)];rw[q1] at hbd;obtain⟨h1,h2,h3,h4⟩:=h;simp only at *;clear hq hq2;have fin:∀h':za1,∃x:List D,byD (if (zaB.enc h').2≠0 then b else (zaB.enc h').1)=x:=fun _=>⟨_,rfl⟩
  by_cases v5:rv=5
  ·subst v5;rw[zabo (rfl:(5:Int)=5)];clear en fin;have hb15:(byD b)[15]? = some (.int .u8 ((b.getD 15 0).toNat)):=by
    unfold byD;rw[zabI,zabx zo,zh zo];rfl
   have hset:byD (b.set (b.length - 1) (b.getD (b.length - 1) 0 ^^^ 1))=(byD b).set 15 (.int .u8 ((b.getD 15 0 ^^^ 1).toNat)):=by
    rw[q1];unfold byD;rw[zacw]
   rw[hset];have hx:=zaba (b.getD 15 0);have ha:zas 1 (byD b)=true:=by simp [zas,byD,D.size,D.cells]
   have hb16:∀h:15<(byD b).length,(byD b)[15]'h= .int .u8 ((b.getD 15 0).toNat):=fun h=>by
    have:=zabx h;rw[hb15] at this;exact (Option.some.inj this).symm
   generalize b.getD 15 0=v at *;generalize byD b=R at *;clear q1 hbl hset;rw[zI zf0 (by simp)];simp -implicitDefEqProofs (maxSteps:=4000000) (disch:=omega) only[zu0,zh,go_sem, *];(try simp only[zPr]);repeat' (first|done|rfl|((first|refine zad (fun hq=> ?_) (fun hq=> ?_)|refine zaj (fun hq=> ?_) (fun hq=> ?_))<;>(try (first|(exfalso;omega)|contradiction))<;>(try simp -implicitDefEqProofs (maxSteps:=4000000) (disch:=omega) only[zh,go_sem, *])<;>(try simp only[zPr])));(all_goals try rfl);(all_goals try (repeat' (first|done|rfl|(exfalso;omega)|contradiction|(refine zae (fun hq=> ?_) (fun hq=> ?_)))))
   all_goals rw[zada (by rw[zacb];omega)]
  rw[zabn v5]
  by_cases v2:rv=2
  ·subst v2;rw[zabo (.inl rfl),zabo (rfl:(2:Int)=2)];have e1:=en ⟨h1,h2+1,h3,h4⟩;generalize zaB.enc ⟨h1,h2+1,h3,h4⟩=z at *;obtain⟨zb,ze⟩:=z;simp only at *;clear en fin
   by_cases cz:ze=0
   ·subst cz;rw[zabn (by simp)];generalize byD b=R at *;generalize byD zb=Z at *;clear q1 hbl;exact zW
   ·rw[zabo cz];replace cz:=zabt cz;generalize byD b=R at *;generalize byD zb=Z at *;clear q1 hbl;exact zW
  by_cases v3:rv=3
  ·subst v3;rw[zabo (.inr (.inl rfl)),zabn (by decide:¬(3:Int)=2),zabo (rfl:(3:Int)=3)];have e1:=en ⟨h1,h2 - 1,h3,h4⟩;generalize zaB.enc ⟨h1,h2 - 1,h3,h4⟩=z at *;obtain⟨zb,ze⟩:=z;simp only at *;clear en fin
   by_cases cz:ze=0
   ·subst cz;rw[zabn (by simp)];generalize byD b=R at *;generalize byD zb=Z at *;clear q1 hbl;exact zW
   ·rw[zabo cz];replace cz:=zabt cz;generalize byD b=R at *;generalize byD zb=Z at *;clear q1 hbl;exact zW
  by_cases v4:rv=4
  ·subst v4;rw[zabo (.inr (.inr rfl)),zabn (by decide:¬(4:Int)=2),zabn (by decide:¬(4:Int)=3)];have e1:=en ⟨h1,h2,(h3+1).tmod 65536,h4⟩;generalize zaB.enc ⟨h1,h2,(h3+1).tmod 65536,h4⟩=z at *;obtain⟨zb,ze⟩:=z;simp only at *;clear en fin
   by_cases cz:ze=0
   ·subst cz;rw[zabn (by simp)];generalize byD b=R at *;generalize byD zb=Z at *;clear q1 hbl;exact zW
   ·rw[zabo cz];replace cz:=zabt cz;generalize byD b=R at *;generalize byD zb=Z at *;clear q1 hbl;exact zW
  rw[zabn (by simp only[not_or];exact⟨v2,v3,v4⟩)];replace v2:=zabt v2;replace v3:=zabt v3;replace v4:=zabt v4;replace v5:=zabt v5;clear en fin;generalize byD b=R at *;clear q1 hbl;exact zW
 ·rw[zabo ce];replace ce:=zabt ce;clear hq hq2 en;obtain⟨h1,h2,h3,h4⟩:=h;simp only at *;generalize byD b=R at *;exact zW
theorem zT7{u:Setup}{B:Int}{w:World}{c:Command}(h4:u.slots<=4)(h:QI u B w)(hB:B<=102000)(hk:c.kind=3)(h1:1<=c.refs.length)(h2:c.refs.length<=2)(hb:c.inv.bodies.length<=1000):zi G 29 [.d (zabc w),.d (zaW c)] []=some (.d (.tup [zabc (doW zaB w c).1,.int .i64 (doW zaB w c).2]),[]):=by
 have hh:=h.hl;have hst:=h.lb.st;have hi:=fun v:zaeE=>zLP w (i:=v) (by rw[h.wi.su];exact h4) h.wi.tl;have ht:=fun r=>zaaA r w.handles zo h.hb;have hhl:w.handles.length<=4294967296:=by omega
 unfold doW;simp only;have hp0:0<c.refs.length:=by omega
 rw[zabn zo,zabn zo,zabo hk];simp only[zabo hp0];clear hp0;clear h hh hst h4;obtain⟨k,pk,by_,⟨v1,v2,v3,v4,v5,v6,bs,ts⟩,rf⟩:=c;simp only at *;subst hk
 rcases rf with _|⟨r1,_|⟨r2,rf⟩⟩
 ·simp at h1
 ·have hv:=hi ⟨v1,v2,v3,v4,v5,v6,bs,[zeZ zaB r1 w.handles]⟩ (by simp) (by simp only;omega);have t1:=ht r1;clear hi ht h1 h2;simp only[zabs,zabq];generalize zeZ zaB r1 w.handles=x1 at *;generalize zcJ w ⟨v1,v2,v3,v4,v5,v6,bs,[x1]⟩=r at *;obtain⟨r,n,e⟩:=r;simp only at *;obtain⟨s,wa,tasks,log,steps,handles⟩:=w;simp only at hhl t1
  by_cases c:e=0
  ·subst c;rw[zabo rfl];have sz_r:=za6 r;generalize zabc r=D_r at *;simp only[zabc,zaW,zbg,zhE,zabs,zabq] at *;have ex1:zaA x1= .sl (byD x1):=rfl;rw[ex1] at t1 hv;clear ex1;generalize byD x1=y1 at *;have zk0:= @zaC;have zk1:=zg1.eq_1;exact zW
  ·rw[zabn c];replace c:=zabt c;have sz_r:=za6 r;generalize zabc r=D_r at *;simp only[zabc,zaW,zbg,zhE,zabs,zabq] at *;have ex1:zaA x1= .sl (byD x1):=rfl;rw[ex1] at t1 hv;clear ex1;generalize byD x1=y1 at *;have zk0:= @zaC;have zk1:=zg1.eq_1;exact zW
 ·have hv:=hi ⟨v1,v2,v3,v4,v5,v6,bs,[zeZ zaB r1 w.handles,zeZ zaB r2 w.handles]⟩ (by simp) (by simp only;omega);have:rf=[]:=by simp only[zabu] at h2;exact zacc.1 zo
  subst this;have t1:=ht r1;have t2:=ht r2;clear hi ht h1 h2;simp only[zabs,zabq];generalize zeZ zaB r1 w.handles=x1 at *;generalize zeZ zaB r2 w.handles=x2 at *;generalize zcJ w ⟨v1,v2,v3,v4,v5,v6,bs,[x1,x2]⟩=r at *;obtain⟨r,n,e⟩:=r;simp only at *;obtain⟨s,wa,tasks,log,steps,handles⟩:=w;simp only at hhl t1 t2
  by_cases c:e=0
  ·subst c;rw[zabo rfl];have sz_r:=za6 r;generalize zabc r=D_r at *;simp only[zabc,zaW,zbg,zhE,zabs,zabq] at *;have ex1:zaA x1= .sl (byD x1):=rfl;have ex2:zaA x2= .sl (byD x2):=rfl;rw[ex1] at t1 hv;rw[ex2] at t2 hv;clear ex1 ex2;generalize byD x1=y1 at *;generalize byD x2=y2 at *;have zk0:= @zaC;have zk1:=zg1.eq_1;exact zW
  ·rw[zabn c];replace c:=zabt c;have sz_r:=za6 r;generalize zabc r=D_r at *;simp only[zabc,zaW,zbg,zhE,zabs,zabq] at *;have ex1:zaA x1= .sl (byD x1):=rfl;have ex2:zaA x2= .sl (byD x2):=rfl;rw[ex1] at t1 hv;rw[ex2] at t2 hv;clear ex1 ex2;generalize byD x1=y1 at *;generalize byD x2=y2 at *;have zk0:= @zaC;have zk1:=zg1.eq_1;exact zW
def ziB(c:Command):Prop:=c.refs.length<=2/\(∀r∈c.refs,r.raw.length<=16)/\c.inv.tokens=[]/\c.inv.bodies.length<=1000
theorem zT4{u:Setup}{B:Int}{w:World}{c:Command}(h4:u.slots<=4)(h:QI u B w)(hB:B<=102000)(hc:ziB c):zi G 29 [.d (zabc w),.d (zaW c)] []=some (.d (.tup [zabc (doW zaB w c).1,.int .i64 (doW zaB w c).2]),[]):=by
 have h1:=h.lb.st;have h2:=h.lb.lg;obtain⟨c1,c2,c3,c4⟩:=hc
 by_cases k1:c.kind=1
 ·exact zT6 h hB k1
 by_cases k2:c.kind=2
 ·exact zT8 h.wi zo zo k2
 by_cases k3:c.kind=3
 ·by_cases hr:c.refs=[]
  ·exact zT3 (by rw[h.wi.su];exact h4) h.wi.tl (by rw[c3];simp) zo k3 hr
  ·exact zT7 h4 h hB k3 (zac0.2 hr) c1 c4
 ·exact zT5 k1 k2 k3
theorem z41{u:Setup}(k:Int):∀(n:Nat) (B:Int) (w:World),QI u B w->(zh6 zaB k n w).2=0->QI u (B+n) (zh6 zaB k n w).1:=by
 intro n
 induction n with
 | zero=>intro B w h _;exact h.mono zo
 | succ n ih=>
  intro B w h e;unfold zh6 at e ⊢
  by_cases c:(zbj w).length=0
  ·rw[zabo c];exact h.mono zo
  rw[zabn c] at e ⊢
  by_cases c2:(zc2 zaB w ((zbo k 0).tmod (zbj w).length)).2=0
  ·rw[zabn (fun q=>q c2)] at e ⊢;exact (ih _ _ (zMV zlh.ok ztM h c2) e).mono zo
  ·rw[zabo c2] at e;exact absurd e c2
theorem zGQ{u:Setup}{B:Int}{w:World}{c:Command}(h:QI u B w)(hc:ziB c)(e:(doW zaB w c).2=0):QI u (B+255) (doW zaB w c).1:=by
 obtain⟨g1,g2,g3,g4⟩:=hc;unfold doW at e ⊢;simp only at e ⊢
 by_cases c1:c.kind=1
 ·rw[zabo c1] at e ⊢;have:=zDQ c.by_;exact (z41 _ _ _ _ h e).mono zo
 rw[zabn c1] at e ⊢
 by_cases c2:c.kind=2
 ·rw[zabo c2]
  split
  ·rename_i q;exact (zaal h q).mono zo
  ·exact h.mono zo
 rw[zabn c2] at e ⊢
 by_cases c3:c.kind=3
 ·rw[zabo c3];have hv:∀b∈(if 0<c.refs.length then { c.inv with tokens:=c.refs.map fun r=>zeZ zaB r w.handles } else c.inv).tokens,b.length<=16:=by
   intro b hb
   split at hb
   ·obtain⟨r,hr,rfl⟩:=zaby.1 hb;exact zaaz ztM (g2 r hr) h.hb
   ·rw[g3] at hb;cases hb
  generalize (if 0<c.refs.length then { c.inv with tokens:=c.refs.map fun r=>zeZ zaB r w.handles } else c.inv)=v at *
  split
  ·rename_i q;exact (zYa h hv q).mono zo
  ·exact h.mono zo
 ·rw[zabn c3];exact h.mono zo
theorem zBr{u:Setup}(e:(zc1 u).2=0):QI u 0 (zc1 u).1:=by
 unfold zc1 at e ⊢
 by_cases c:(zbL u).2=0
 ·rw[zabn (fun q=>q c)];have hu:za3 u=true:=by
   cases q:za3 u with
   | true=>rfl
   | false=>unfold zbL at c;rw[zabo q] at c;exact absurd c (by simp)
  exact { wi:={ hu:=hu,su:=rfl,ar:=zR6 c,ts:=fun t h=>by simp [zbc] at h,tl:=by simp [zbc],st:=by simp [zbc] },lb:=⟨by simp [zbc],by simp [zbc]⟩,hl:=by simp [zbc],hb:=fun b h=>by simp [zbc] at h,tk:=fun t h=>by simp [zbc] at h }
 ·rw[zabo c] at e;exact absurd e c
theorem z7W{u:Setup}{l:List Command}(h4:u.slots<=4)(hL:l.length<=400)(hc:∀c∈l,ziB c):zi G 13 [.d (zaJ u),.d (.sl (l.map zaW))] []=some (.d (.tup [zabc (zgw zaB u l).1,.int .i64 (zgw zaB u l).2]),[]):=
 z7V (fun k w=>QI u (255 * k) w) h4 hL (fun e=>(zBr e).mono zo) (fun k w c hm hk h=>zT4 h4 h zo (hc c hm)) (fun k w c hm hk h e=>(zGQ h (hc c hm) e).mono zo)
theorem z7Y{u:Setup}:∀(l:List Command) (B:Int) (w:World),(∀c∈l,ziB c)->QI u B w->(zer zaB l w).2=0->QI u (B+255 * l.length) (zer zaB l w).1:=by
 intro l
 induction l with
 | nil=>intro B w _ h _;exact h.mono (by simp)
 | cons c l ih=>
  intro B w hc h e;unfold zer at e ⊢
  by_cases c1:(doW zaB w c).2=0
  ·rw[zabn (fun q=>q c1)] at e ⊢;exact (ih _ _ (fun x hx=>hc x (.tail _ hx)) (zGQ h (hc c (.head _)) c1) e).mono (by simp only[zabu];omega)
  ·rw[zabo c1] at e;exact absurd e c1
theorem z7Z{u:Setup}{l:List Command}(hL:l.length<=400)(hc:∀c∈l,ziB c)(e:(zgw zaB u l).2=0):QI u 102000 (zgw zaB u l).1:=by
 have h0:=zBr (u:=u);unfold zc1 at h0;unfold zgw at e ⊢
 by_cases c1:(zbL u).2=0
 ·rw[zabn (fun q=>q c1)] at e h0 ⊢;rw[zabn zo] at e ⊢;exact (z7Y l 0 _ hc (h0 rfl) e).mono zo
 ·rw[zabo c1] at e;exact absurd e c1
theorem z4Y(l:List Int)(a:Nat)(xs:List Int)(hL:l.length<=4000)(h1:1<=xs.length)(h2:xs.length<=1000):zi G 76 [.ref 1000000 0 0,.d (.sl (zC xs))] [(1000000,srcO l a)]=some (.d (.int .i64 (xs.getD (nD l a xs.length).toNat 0)),[(1000000,srcO l (za0 l a).2)]):=by
 have hn:=zgr l a xs.length hL zo zo;have hb:=zbE l a (n:=xs.length) zo;obtain⟨i,hi⟩:∃i:Nat,nD l a xs.length=i:=⟨(nD l a xs.length).toNat,by omega⟩;rw[hi] at hn hb ⊢;have hlt:i<xs.length:=by omega
 rw[show ((i:Int)).toNat=i by omega,zh hlt];clear hb hi;exact zW
theorem zMW{l:List Int}{a:Nat}{xs:List Int}{lo hi:Int}(h:∀x∈xs,lo<=x/\x<=hi)(h1:1<=xs.length)(h2:xs.length<=1000):lo<=xs.getD (nD l a xs.length).toNat 0/\xs.getD (nD l a xs.length).toNat 0<=hi:=by
 have:=zbE l a (n:=xs.length) zo
 simp_all
def fz(k x:Int):Int:=if k=7\/k=6 then 0 else x
theorem zWd(k p b ik h m v f t:Int)(bs ts rs:List D):zi G 78 [.d (.agg [.int .i64 k,.int .i64 p,.int .i64 b,.int .i64 ik,.int .i64 h,.int .i64 m,.int .i64 v,.int .i64 f,.int .i64 t,.sl bs,.sl ts,.sl rs])] []=
    some (.d (.agg [.int .i64 k,.int .i64 p,.int .i64 b,.int .i64 ik,.int .i64 (fz ik h),.int .i64 (fz ik m),.int .i64 v,.int .i64 f,.int .i64 t,.sl bs,.sl ts,.sl rs]),[]):=by
 unfold fz
 by_cases h1:ik=7
 ·simp only[h1,zadq,if_true];exact zW
 ·by_cases h2:ik=6
  ·simp only[h1,h2,or_true,if_true];exact zW
  ·simp only[h1,h2,zacP,if_false];exact zW
def zX7(i:zaeE):Prop:=i.tokens=[]/\i.bodies.length<=2/\(∀b∈i.bodies,b.length<=3)/\0<=i.home/\i.home<=3/\0<=i.max/\i.max<=3/\0<=i.visibility/\i.visibility<=100/\0<=i.from_/\i.from_<=4/\0<=i.to/\i.to<=3
def zgL(c:Command):Prop:=c.refs.length<=2/\(∀r∈c.refs,0<=r.index/\r.index<=5/\r.raw.length=1)/\zX7 c.inv
def zq9(l:List Int)(r:Option (Go.Sim.AV×zd)):Prop:=∃c a',zgL c/\r=some (.d (zaW c),[(1000000,srcO l a')])
theorem zjW{l:List Int}{k p b ik h m v f t:Int}{a':Nat}(h1:0<=h)(h2:h<=3)(h3:0<=m)(h4:m<=3)(h5:0<=v)(h6:v<=100)(h7:0<=f)(h8:f<=4)(h9:0<=t)(h10:t<=3):zfF (zq9 l) (some (.d (.agg [.int .i64 k,.int .i64 p,.int .i64 b,.int .i64 ik,.int .i64 h,.int .i64 m,.int .i64 v,.int .i64 f,.int .i64 t,.sl [],.sl [],.sl []]),[(1000000,srcO l a')])):=
 ⟨⟨k,p,b,⟨ik,h,m,v,f,t,[],[]⟩,[]⟩,a',⟨by simp,by simp,rfl,by simp,by simp,h1,h2,h3,h4,h5,h6,h7,h8,h9,h10⟩,rfl⟩
theorem zGI{l:List Int}(bs:List (List UInt8)){k p b ik:Int}{a':Nat}(h1:bs.length<=2)(h2:∀b∈bs,b.length<=3):zfF (zq9 l) (some (.d (.agg [.int .i64 k,.int .i64 p,.int .i64 b,.int .i64 ik,.int .i64 (fz 1 0),.int .i64 (fz 1 0),.int .i64 0,.int .i64 0,.int .i64 0,.sl (bs.map D.str),.sl [],.sl []]),[(1000000,srcO l a')])):=
 ⟨⟨k,p,b,⟨ik,0,0,0,0,0,bs,[]⟩,[]⟩,a',⟨by simp,by simp,rfl,h1,h2,by simp⟩,rfl⟩
theorem zra{l:List Int}(rs:List Ref){k p b ik x v:Int}{a':Nat}(h1:0<=v)(h2:v<=100)(h3:rs.length<=2)(h4:∀r∈rs,0<=r.index/\r.index<=5/\r.raw.length=1):zfF (zq9 l) (some (.d (.agg [.int .i64 k,.int .i64 p,.int .i64 b,.int .i64 ik,.int .i64 (fz x 0),.int .i64 (fz x 0),.int .i64 v,.int .i64 0,.int .i64 0,.sl [],.sl [],.sl (rs.map zhE)]),[(1000000,srcO l a')])):=by
 have e:fz x 0=0:=by unfold fz;split<;>rfl
 rw[e];exact⟨⟨k,p,b,⟨ik,0,0,v,0,0,[],[]⟩,rs⟩,a',⟨h3,h4,rfl,by simp,by simp,by simp [h1,h2]⟩,rfl⟩
theorem zS3(l:List Int)(a:Nat)(hL:l.length<=4000):zfF (zq9 l) (zi G 43 [.ref 1000000 0 0] [(1000000,srcO l a)]):=by
 obtain⟨a1,q1⟩:∃a1,(za0 l a).2=a1:=⟨_,rfl⟩;obtain⟨a2,q2⟩:∃a2,(za0 l a1).2=a2:=⟨_,rfl⟩;obtain⟨a3,q3⟩:∃a3,(za0 l a2).2=a3:=⟨_,rfl⟩;have n1:=zbE l a (n:=20) zo;have n2:=zbE l a1 (n:=4) zo;have n3:=zbE l a2 (n:=2) zo;have hn:=fun at1 m=>zgr l at1 m hL;have hr:=fun at1 lo hi=>zng l at1 lo hi hL;have hb:=fun at1=>(zDL l at1 hL).2;have hf:=zWd;have hp:=fun at1 xs=>z4Y l at1 xs hL;have p1:=fun at1=>hp at1 [1,1,2,3,5,8,14,30] (by simp) (by simp);have p2:=fun at1=>hp at1 [0,1,3,10,40] (by simp) (by simp);have p3:=fun at1=>hp at1 [0,1,5,20,100] (by simp) (by simp);have p4:=fun at1=>hp at1 [0,1,10,50] (by simp) (by simp);have p5:=fun at1=>hp at1 [7,7,6,8] (by simp) (by simp);have p6:=fun at1=>hp at1 [0,0,0,0,2,3,4,5,7] (by simp) (by simp);simp only[zC,zabs,zabq] at p1 p2 p3 p4 p5 p6;clear hp;have b3:=fun at1=>(zDL l at1 hL).1;have v3:∀at1,0<=[0,1,5,20,100].getD (nD l at1 5).toNat (0:Int)/\[0,1,5,20,100].getD (nD l at1 5).toNat (0:Int)<=100:=fun at1=>zMW (xs:=[0,1,5,20,100]) (by decide) (by simp) (by simp);have v4:∀at1,0<=[0,1,10,50].getD (nD l at1 4).toNat (0:Int)/\[0,1,10,50].getD (nD l at1 4).toNat (0:Int)<=100:=fun at1=>by
  have:=zMW (l:=l) (a:=at1) (xs:=[0,1,10,50]) (lo:=0) (hi:=50) (by decide) (by simp) (by simp);exact zF
 have w3:=v3 a3;have w4:=v4 a3;have n4:=zbE l a2 (n:=3) zo;have n5:=zbE l a3 (n:=3) zo;have n6:=zbE l a3 (n:=4) zo;have n7:=zbE l a3 (n:=5) zo;have n8:=zbE l a3 (n:=2) zo;obtain⟨a4,q4⟩:∃a4,(za0 l a3).2=a4:=⟨_,rfl⟩;have n9:=zbE l a4 (n:=2) zo;have n10:∀at1,0<=nD l at1 6/\nD l at1 6<6:=fun at1=>zbE l at1 (n:=6) zo;clear v3 v4;have u8:∀at1,∃c:UInt8,nD l at1 256=c.toNat:=fun at1=>by
  have:=zbE l at1 (n:=256) zo;exact⟨UInt8.ofNat (nD l at1 256).toNat,by rw[UInt8.toNat_ofNat'];omega⟩
 rcases (show nD l a 20<9\/nD l a 20=9\/(nD l a 20=10\/nD l a 20=11\/nD l a 20=12)\/(nD l a 20=13\/nD l a 20=14)\/(nD l a 20=15\/nD l a 20=16)\/nD l a 20=17\/nD l a 20=18\/nD l a 20=19 by omega) with c|c|c|c|c|c|c|c
 ·rw[zI ze8 (by simp)];simp -implicitDefEqProofs (maxSteps:=4000000) (disch:=omega) only[zd5,zh,go_sem, *];(try simp only[zPr]);repeat' (first|done|rfl|((first|refine zad (fun hq=> ?_) (fun hq=> ?_)|refine zaj (fun hq=> ?_) (fun hq=> ?_))<;>(try (first|(exfalso;omega)|contradiction))<;>(try simp -implicitDefEqProofs (maxSteps:=4000000) (disch:=omega) only[zh,go_sem, *])<;>(try simp only[zPr])));(all_goals try rfl);(all_goals try (repeat' (first|done|rfl|(exfalso;omega)|contradiction|(refine zae (fun hq=> ?_) (fun hq=> ?_)))))
  all_goals (refine zjW ?_ ?_ ?_ ?_ ?_ ?_ ?_ ?_ ?_ ?_<;>omega)
 ·rw[zI ze8 (by simp)];simp -implicitDefEqProofs (maxSteps:=4000000) (disch:=omega) only[zd5,zh,go_sem, *];(try simp only[zPr]);repeat' (first|done|rfl|((first|refine zad (fun hq=> ?_) (fun hq=> ?_)|refine zaj (fun hq=> ?_) (fun hq=> ?_))<;>(try (first|(exfalso;omega)|contradiction))<;>(try simp -implicitDefEqProofs (maxSteps:=4000000) (disch:=omega) only[zh,go_sem, *])<;>(try simp only[zPr])));(all_goals try rfl);(all_goals try (repeat' (first|done|rfl|(exfalso;omega)|contradiction|(refine zae (fun hq=> ?_) (fun hq=> ?_)))))
  all_goals (refine zjW ?_ ?_ ?_ ?_ ?_ ?_ ?_ ?_ ?_ ?_<;>omega)
 ·rcases (show nD l a2 2=0\/nD l a2 2=1 by omega) with m0|m0
  ·rcases c with c|c|c
   all_goals (rw[zI ze8 (by simp)];simp -implicitDefEqProofs (maxSteps:=4000000) (disch:=omega) only[zd5,zaC,zmD,zh,go_sem, *];(try simp only[zPr]);repeat' (first|done|rfl|((first|refine zad (fun hq=> ?_) (fun hq=> ?_)|refine zaj (fun hq=> ?_) (fun hq=> ?_))<;>(try (first|(exfalso;omega)|contradiction))<;>(try simp -implicitDefEqProofs (maxSteps:=4000000) (disch:=omega) only[zaC,zmD,zh,go_sem, *])<;>(try simp only[zPr])));(all_goals try rfl);(all_goals try (repeat' (first|done|rfl|(exfalso;omega)|contradiction|(refine zae (fun hq=> ?_) (fun hq=> ?_))))))
   all_goals exact zGI [_] (by simp) (by intro b hb;simp only[zab1] at hb;subst hb;exact b3 _)
  ·rcases c with c|c|c
   all_goals (rw[zI ze8 (by simp)];simp -implicitDefEqProofs (maxSteps:=4000000) (disch:=omega) only[zd5,zaC,zmD,zh,go_sem, *];(try simp only[zPr]);repeat' (first|done|rfl|((first|refine zad (fun hq=> ?_) (fun hq=> ?_)|refine zaj (fun hq=> ?_) (fun hq=> ?_))<;>(try (first|(exfalso;omega)|contradiction))<;>(try simp -implicitDefEqProofs (maxSteps:=4000000) (disch:=omega) only[zaC,zmD,zh,go_sem, *])<;>(try simp only[zPr])));(all_goals try rfl);(all_goals try (repeat' (first|done|rfl|(exfalso;omega)|contradiction|(refine zae (fun hq=> ?_) (fun hq=> ?_))))))
   all_goals exact zGI [_,_] (by simp) (by intro b hb;simp only[zab4,zadi,zacP] at hb;rcases hb with rfl|rfl<;>exact b3 _)
 ·rcases c with c|c
  all_goals (rw[zI ze8 (by simp)];simp -implicitDefEqProofs (maxSteps:=4000000) (disch:=omega) only[zd5,zh,go_sem, *];(try simp only[zPr]);repeat' (first|done|rfl|((first|refine zad (fun hq=> ?_) (fun hq=> ?_)|refine zaj (fun hq=> ?_) (fun hq=> ?_))<;>(try (first|(exfalso;omega)|contradiction))<;>(try simp -implicitDefEqProofs (maxSteps:=4000000) (disch:=omega) only[zh,go_sem, *])<;>(try simp only[zPr])));(all_goals try rfl);(all_goals try (repeat' (first|done|rfl|(exfalso;omega)|contradiction|(refine zae (fun hq=> ?_) (fun hq=> ?_))))))
  all_goals (refine zjW ?_ ?_ ?_ ?_ ?_ ?_ ?_ ?_ ?_ ?_<;>(try simp only[fz])<;>(try split)<;>omega)
 ·rcases (show nD l a2 3=2\/¬nD l a2 3=2 by omega) with k5|k5
  ·obtain⟨s1,t1⟩:∃s1,(za0 l a4).2=s1:=⟨_,rfl⟩;obtain⟨s2,t2⟩:∃s2,(za0 l s1).2=s2:=⟨_,rfl⟩;obtain⟨s3,t3⟩:∃s3,(za0 l s2).2=s3:=⟨_,rfl⟩;obtain⟨s4,t4⟩:∃s4,(za0 l s3).2=s4:=⟨_,rfl⟩;obtain⟨s5,t5⟩:∃s5,(za0 l s4).2=s5:=⟨_,rfl⟩;obtain⟨s6,t6⟩:∃s6,(za0 l s5).2=s6:=⟨_,rfl⟩;obtain⟨c1,d1⟩:=u8 s3;obtain⟨c2,d2⟩:=u8 s6;have e1:=c1.toNat_lt;have e2:=c2.toNat_lt;have r1:=zbE l s1 (n:=6) zo;have r2:=zbE l s4 (n:=6) zo
   rcases (show nD l a4 2=0\/nD l a4 2=1 by omega) with m0|m0
   ·rcases c with c|c
    all_goals (rw[zI ze8 (by simp)];simp -implicitDefEqProofs (maxSteps:=4000000) (disch:=omega) only[zd5,zaC,zgZ,zh,go_sem, *];(try simp only[zPr]);repeat' (first|done|rfl|((first|refine zad (fun hq=> ?_) (fun hq=> ?_)|refine zaj (fun hq=> ?_) (fun hq=> ?_))<;>(try (first|(exfalso;omega)|contradiction))<;>(try simp -implicitDefEqProofs (maxSteps:=4000000) (disch:=omega) only[zaC,zgZ,zh,go_sem, *])<;>(try simp only[zPr])));(all_goals try rfl);(all_goals try (repeat' (first|done|rfl|(exfalso;omega)|contradiction|(refine zae (fun hq=> ?_) (fun hq=> ?_))))))
    all_goals (refine zra [⟨nD l s1 6,[0,0,0,0,2,3,4,5,7].getD (nD l s2 9).toNat 0,[c1]⟩] ?_ ?_ (by simp) ?_;(first|omega|exact zads _);(first|omega|decide);intro r hr;simp only[zab1] at hr;subst hr;exact⟨r1.1,by simp only;omega,rfl⟩)
   ·rcases c with c|c
    all_goals (rw[zI ze8 (by simp)];simp -implicitDefEqProofs (maxSteps:=4000000) (disch:=omega) only[zd5,zaC,zgZ,zh,go_sem, *];(try simp only[zPr]);repeat' (first|done|rfl|((first|refine zad (fun hq=> ?_) (fun hq=> ?_)|refine zaj (fun hq=> ?_) (fun hq=> ?_))<;>(try (first|(exfalso;omega)|contradiction))<;>(try simp -implicitDefEqProofs (maxSteps:=4000000) (disch:=omega) only[zaC,zgZ,zh,go_sem, *])<;>(try simp only[zPr])));(all_goals try rfl);(all_goals try (repeat' (first|done|rfl|(exfalso;omega)|contradiction|(refine zae (fun hq=> ?_) (fun hq=> ?_))))))
    all_goals (refine zra [⟨nD l s1 6,[0,0,0,0,2,3,4,5,7].getD (nD l s2 9).toNat 0,[c1]⟩,⟨nD l s4 6,[0,0,0,0,2,3,4,5,7].getD (nD l s5 9).toNat 0,[c2]⟩] ?_ ?_ (by simp) ?_;(first|omega|exact zads _);(first|omega|decide);intro r hr;simp only[zab4,zadi,zacP] at hr;rcases hr with rfl|rfl;exact⟨r1.1,by simp only;omega,rfl⟩;exact⟨r2.1,by simp only;omega,rfl⟩)
  ·obtain⟨s1,t1⟩:∃s1,(za0 l a3).2=s1:=⟨_,rfl⟩;obtain rfl:s1=a4:=t1.symm.trans q4;obtain⟨s2,t2⟩:∃s2,(za0 l s1).2=s2:=⟨_,rfl⟩;obtain⟨s3,t3⟩:∃s3,(za0 l s2).2=s3:=⟨_,rfl⟩;obtain⟨s4,t4⟩:∃s4,(za0 l s3).2=s4:=⟨_,rfl⟩;obtain⟨s5,t5⟩:∃s5,(za0 l s4).2=s5:=⟨_,rfl⟩;obtain⟨s6,t6⟩:∃s6,(za0 l s5).2=s6:=⟨_,rfl⟩;obtain⟨c1,d1⟩:=u8 s3;obtain⟨c2,d2⟩:=u8 s6;have e1:=c1.toNat_lt;have e2:=c2.toNat_lt;have r1:=zbE l s1 (n:=6) zo;have r2:=zbE l s4 (n:=6) zo
   rcases (show nD l a3 2=0\/nD l a3 2=1 by omega) with m0|m0
   ·rcases c with c|c
    all_goals (rw[zI ze8 (by simp)];simp -implicitDefEqProofs (maxSteps:=4000000) (disch:=omega) only[zd5,zaC,zgZ,zh,go_sem, *];(try simp only[zPr]);repeat' (first|done|rfl|((first|refine zad (fun hq=> ?_) (fun hq=> ?_)|refine zaj (fun hq=> ?_) (fun hq=> ?_))<;>(try (first|(exfalso;omega)|contradiction))<;>(try simp -implicitDefEqProofs (maxSteps:=4000000) (disch:=omega) only[zaC,zgZ,zh,go_sem, *])<;>(try simp only[zPr])));(all_goals try rfl);(all_goals try (repeat' (first|done|rfl|(exfalso;omega)|contradiction|(refine zae (fun hq=> ?_) (fun hq=> ?_))))))
    all_goals (refine zra [⟨nD l s1 6,[0,0,0,0,2,3,4,5,7].getD (nD l s2 9).toNat 0,[c1]⟩] ?_ ?_ (by simp) ?_;(first|omega|exact zads _);(first|omega|decide);intro r hr;simp only[zab1] at hr;subst hr;exact⟨r1.1,by simp only;omega,rfl⟩)
   ·rcases c with c|c
    all_goals (rw[zI ze8 (by simp)];simp -implicitDefEqProofs (maxSteps:=4000000) (disch:=omega) only[zd5,zaC,zgZ,zh,go_sem, *];(try simp only[zPr]);repeat' (first|done|rfl|((first|refine zad (fun hq=> ?_) (fun hq=> ?_)|refine zaj (fun hq=> ?_) (fun hq=> ?_))<;>(try (first|(exfalso;omega)|contradiction))<;>(try simp -implicitDefEqProofs (maxSteps:=4000000) (disch:=omega) only[zaC,zgZ,zh,go_sem, *])<;>(try simp only[zPr])));(all_goals try rfl);(all_goals try (repeat' (first|done|rfl|(exfalso;omega)|contradiction|(refine zae (fun hq=> ?_) (fun hq=> ?_))))))
    all_goals (refine zra [⟨nD l s1 6,[0,0,0,0,2,3,4,5,7].getD (nD l s2 9).toNat 0,[c1]⟩,⟨nD l s4 6,[0,0,0,0,2,3,4,5,7].getD (nD l s5 9).toNat 0,[c2]⟩] ?_ ?_ (by simp) ?_;(first|omega|exact zads _);(first|omega|decide);intro r hr;simp only[zab4,zadi,zacP] at hr;rcases hr with rfl|rfl;exact⟨r1.1,by simp only;omega,rfl⟩;exact⟨r2.1,by simp only;omega,rfl⟩)
 ·rw[zI ze8 (by simp)];simp -implicitDefEqProofs (maxSteps:=4000000) (disch:=omega) only[zd5,zh,go_sem, *];(try simp only[zPr]);repeat' (first|done|rfl|((first|refine zad (fun hq=> ?_) (fun hq=> ?_)|refine zaj (fun hq=> ?_) (fun hq=> ?_))<;>(try (first|(exfalso;omega)|contradiction))<;>(try simp -implicitDefEqProofs (maxSteps:=4000000) (disch:=omega) only[zh,go_sem, *])<;>(try simp only[zPr])));(all_goals try rfl);(all_goals try (repeat' (first|done|rfl|(exfalso;omega)|contradiction|(refine zae (fun hq=> ?_) (fun hq=> ?_)))))
  all_goals (refine zjW ?_ ?_ ?_ ?_ ?_ ?_ ?_ ?_ ?_ ?_<;>(try simp only[fz])<;>(try split)<;>omega)
 ·rw[zI ze8 (by simp)];simp -implicitDefEqProofs (maxSteps:=4000000) (disch:=omega) only[zd5,zh,go_sem, *];(try simp only[zPr]);repeat' (first|done|rfl|((first|refine zad (fun hq=> ?_) (fun hq=> ?_)|refine zaj (fun hq=> ?_) (fun hq=> ?_))<;>(try (first|(exfalso;omega)|contradiction))<;>(try simp -implicitDefEqProofs (maxSteps:=4000000) (disch:=omega) only[zh,go_sem, *])<;>(try simp only[zPr])));(all_goals try rfl);(all_goals try (repeat' (first|done|rfl|(exfalso;omega)|contradiction|(refine zae (fun hq=> ?_) (fun hq=> ?_)))))
  all_goals (refine zjW ?_ ?_ ?_ ?_ ?_ ?_ ?_ ?_ ?_ ?_<;>(try simp only[fz])<;>(try split)<;>omega)
 ·rw[zI ze8 (by simp)];simp -implicitDefEqProofs (maxSteps:=4000000) (disch:=omega) only[zd5,zh,go_sem, *];(try simp only[zPr]);repeat' (first|done|rfl|((first|refine zad (fun hq=> ?_) (fun hq=> ?_)|refine zaj (fun hq=> ?_) (fun hq=> ?_))<;>(try (first|(exfalso;omega)|contradiction))<;>(try simp -implicitDefEqProofs (maxSteps:=4000000) (disch:=omega) only[zh,go_sem, *])<;>(try simp only[zPr])));(all_goals try rfl);(all_goals try (repeat' (first|done|rfl|(exfalso;omega)|contradiction|(refine zae (fun hq=> ?_) (fun hq=> ?_)))))
  all_goals (refine zjW ?_ ?_ ?_ ?_ ?_ ?_ ?_ ?_ ?_ ?_<;>(try simp only[fz])<;>(try split)<;>omega)
theorem zGH:∃f:List Int->Nat->Command×Nat,∀l a,l.length<=4000->zgL (f l a).1/\zi G 43 [.ref 1000000 0 0] [(1000000,srcO l a)]=some (.d (zaW (f l a).1),[(1000000,srcO l (f l a).2)]):=by
 have h:∀l a,∃p:Command×Nat,l.length<=4000->zgL p.1/\zi G 43 [.ref 1000000 0 0] [(1000000,srcO l a)]=some (.d (zaW p.1),[(1000000,srcO l p.2)]):=fun l a=>by
  by_cases h:l.length<=4000
  ·obtain⟨c,a',h1,h2⟩:=zS3 l a h;exact⟨(c,a'),fun _=>⟨h1,h2⟩⟩
  ·exact⟨(zRp,0),fun h'=>absurd h' h⟩
 exact⟨fun l a=>Classical.choose (h l a),fun l a hl=>zaci (h l a) hl⟩
noncomputable def zjV:List Int->Nat->Command×Nat:=Classical.choose zGH
theorem zS2(l:List Int)(a:Nat)(hL:l.length<=4000):zgL (zjV l a).1/\zi G 43 [.ref 1000000 0 0] [(1000000,srcO l a)]=some (.d (zaW (zjV l a).1),[(1000000,srcO l (zjV l a).2)]):=zaci zGH l a hL
def scS(l:List Int)(n:Int)(p:List Command×Nat×Nat):St:=⟨[(0,.ref 1000000 0 0),(1,.d (.int .i64 n)),(5,.acc 5 (p.1.map zaW)),(6,.d (.int .i64 p.2.2)),(1000000,.ref 1000000 1 0)],[(5,.acc p.1.length),(1000000,srcO l p.2.1)]⟩
def zQw(l:List Int)(n:Nat)(r:Option (zX×St)):Prop:=∃(cs:List Command) (a':Nat),cs.length<=n/\(∀c∈cs,zgL c)/\r=some (.exit 0,⟨[(5,.acc 5 (cs.map zaW)),(1000000,.ref 1000000 1 0)],[(5,.acc cs.length),(1000000,srcO l a')]⟩)
theorem z8A(l:List Int)(n:Nat)(hL:l.length<=4000)(hn:n<=400):∀p:List Command×Nat×Nat,(p.1.length=p.2.2/\p.2.2<=n/\∀c∈p.1,zgL c)->zQw l n (z6 G [] zmE (scS l n p)):=by
 refine zsO (fun p:List Command×Nat×Nat=>n - p.2.2) _ (scS l n) (fun _=>zfF (zQw l n)) fun⟨cs,a,k⟩ ⟨h1,h2,h3⟩ L ih=> ?_;simp only at h1 h2 h3;subst h1;have hm:=zZP l a hL
 by_cases h0:cs.length<n
 ·obtain⟨hc,hcmd⟩:=zS2 l a hL;have i1:=ih (cs++[(zjV l a).1],(zjV l a).2,cs.length+1) ⟨by simp only[zabv,zab3],by simp only;omega,fun c hh=>(zabS.1 hh).elim (fun h=>h3 c h) (fun h=>by rw[zab1.1 h];exact hc)⟩ (by simp only;omega);generalize zjV l a=cc at *;obtain⟨c,a2⟩:=cc;simp only at *
  by_cases hmo:(a:Int)<l.length
  ·rw[zabM hmo] at hm;clear ih hc hmo;simp only[scS,zmE,srcO] at *;simp only[zNr,srcO] at i1;have sz_c:=zUm c;generalize zaW c=D_c at *;exact zS
  ·rw[zabP hmo] at hm;clear ih hc i1 hmo;simp only[scS,zmE,srcO] at *
   (try simp -implicitDefEqProofs (maxSteps:=4000000) (disch:=omega) only[zh,go_sem, *]);(try simp only[zPr]);repeat' (first|done|rfl|((first|refine zad (fun hq=> ?_) (fun hq=> ?_)|refine zaj (fun hq=> ?_) (fun hq=> ?_))<;>(try (first|(exfalso;omega)|contradiction))<;>(try simp -implicitDefEqProofs (maxSteps:=4000000) (disch:=omega) only[zh,go_sem, *])<;>(try simp only[zPr])));(all_goals try rfl);(all_goals try (repeat' (first|done|rfl|(exfalso;omega)|contradiction|(refine zae (fun hq=> ?_) (fun hq=> ?_)))))
   all_goals exact⟨cs,a,by omega,h3,rfl⟩
 ·clear ih;simp only[scS,zmE,srcO] at *
  (try simp -implicitDefEqProofs (maxSteps:=4000000) (disch:=omega) only[zh,go_sem, *]);(try simp only[zPr]);repeat' (first|done|rfl|((first|refine zad (fun hq=> ?_) (fun hq=> ?_)|refine zaj (fun hq=> ?_) (fun hq=> ?_))<;>(try (first|(exfalso;omega)|contradiction))<;>(try simp -implicitDefEqProofs (maxSteps:=4000000) (disch:=omega) only[zh,go_sem, *])<;>(try simp only[zPr])));(all_goals try rfl);(all_goals try (repeat' (first|done|rfl|(exfalso;omega)|contradiction|(refine zae (fun hq=> ?_) (fun hq=> ?_)))))
  all_goals exact⟨cs,a,by omega,h3,rfl⟩
theorem z8B(l:List Int)(a n:Nat)(hL:l.length<=4000)(hn:n<=400):∃(cs:List Command) (a':Nat),cs.length<=n/\(∀c∈cs,zgL c)/\zi G 21 [.ref 1000000 0 0,.d (.int .i64 n)] [(1000000,srcO l a)]=some (.d (.sl (cs.map zaW)),[(1000000,srcO l a')]):=by
 obtain⟨cs,a',h1,h2,h⟩:=z8A l n hL hn ([],a,0) ⟨rfl,by simp,fun c h=>by cases h⟩;refine⟨cs,a',h1,h2,?_⟩;simp only[scS,zabq,zabw,zabQ] at h;clear h2;exact zW
theorem zXE{c:Command}(h:zgL c):ziB c:=⟨h.1,fun r hr=>by have:=(h.2.1 r hr).2.2;omega,h.2.2.1,by have:=h.2.2.2.1;omega⟩
theorem zIS{l:List Command}(h:∀c∈l,zgL c):∀c∈l,ziB c:=fun c hc=>zXE (h c hc)
def zjj:Setup:=⟨1,1,1,1,1,0,1,0⟩
structure EB(e:Event):Prop where
 len:e.l.length<=24
 rc:e.kind=3->e.err=0->∀g∈e.l,0<=g.gen/\g.gen<=65536
 pu:e.kind=7->e.err=0->0<=e.epoch/\e.epoch<=65536
theorem EB.plain{e:Event}(h:e.l.length<=24)(h3:e.kind≠3\/e.l=[])(h7:e.kind≠7\/e.err≠0):EB e:=
 ⟨h,fun k _ g hg=>(h3.elim (fun q=>absurd k q) fun q=>by rw[q] at hg;cases hg),fun k z=>h7.elim (fun q=>absurd k q) fun q=>absurd z q⟩
theorem zajw{s:zt}{m:zj}{d:Int}(h:(zfP s m d).2.2=0):0<=(zfP s m d).2.1.msg.gen/\(zfP s m d).2.1.msg.gen<=65536:=by
 unfold zfP at h ⊢
 split at h
 ·rename_i q;exact absurd h q
 rename_i q1;rw[zabn q1]
 split at h
 ·rename_i q;exact absurd h q
 rename_i q2;rw[zabn q2]
 split at h
 ·rename_i q;exact absurd h q
 rename_i q3;rw[zabn q3];simp only;have q3:=zabG.1 q3;have hE:zea s.leases (zdz (rmD s.ready m.id).2.1).1 d=0:=by
  unfold zaF at *; exact zF
 unfold zea at hE
 split at hE
 ·rename_i q;exact absurd hE q
 split at hE
 ·rename_i q;exact absurd hE q
 rename_i q;have:=(zMr _).1 (zabG.1 q);omega
theorem zanM(mx d ep lim:Int):∀(l:List zj) (s:zt) (out:List zG),(∀y∈out,0<=y.msg.gen/\y.msg.gen<=65536)->∀y∈(tkF mx d ep lim l s out).2.1,0<=y.msg.gen/\y.msg.gen<=65536:=by
 intro l
 induction l with
 | nil=>intro s out h;exact h
 | cons m l ih=>
  intro s out h;unfold tkF
  split
  ·exact ih s out h
  split
  ·exact fun _ q=>by cases q
  ·rename_i q;refine ih _ _ fun y hy=> ?_
   rcases zabS.1 hy with hy|hy
   ·exact h y hy
   ·rw[zab1.1 hy];exact zajw (zabG.1 q)
theorem zanC(t:Task):∀y∈(zda t).2.2,0<=y.msg.gen/\y.msg.gen<=65536:=by
 unfold zda;simp only;unfold zcD
 split
 ·exact fun _ q=>by cases q
 split
 ·exact fun _ q=>by cases q
 ·exact zanM _ _ _ _ _ _ _ fun _ q=>by cases q
def EBL(l:List Event):Prop:=∀e∈l,EB e
theorem EBL.nil:EBL []:=fun _ q=>by cases q
theorem EBL.one{e:Event}(h:EB e):EBL [e]:=fun x hx=>by rw[zab1.1 hx];exact h
theorem EBL.app{a b:List Event}(ha:EBL a)(hb:EBL b):EBL (a++b):=fun x hx=>(zabS.1 hx).elim (ha x) (hb x)
theorem EBL.if_{c:Prop}[Decidable c]{a b:List Event}(ha:EBL a)(hb:EBL b):EBL (if c then a else b):=by split<;>assumption
theorem zaf4{plan:Task->Pln}(h:∀t,EBL (plan t).2.2)(lo hi:Int)(cells:Task->List Int)(a:zy)(t:Task)(n:Int):EBL (zbf plan lo hi cells a t n).2.2.1:=by
 unfold zbf zbv;simp only
 split
 ·exact .nil
 generalize (if t.pc=0 then zb8 t (cells t) 1 else t)=t';generalize goT a t' n=g
 split
 ·exact .nil
 split
 ·exact h _
 split<;>exact .nil
theorem zal8{u:Setup}{a:zy}{t:Task}{n N:Int}(ht:TI u N t):EBL (zci a t n).2.2.1:=by
 unfold zci;simp only
 split
 ·exact .nil
 split
 ·split
  ·exact .one (.plain (by simp [evT,zbw]) (.inr rfl) (.inr (by simp [evT])))
  ·exact .nil
 have hc:(casWord a 1 t.loaded (t.loaded+1)).2.2=0->t.loaded+1<=65536:=by
  unfold casWord at *; exact zF
 split
 ·exact .nil
 rename_i c;have:=hc (zabG.1 c);have:=ht.ld
 split
 ·exact .nil
 ·exact .one ⟨by simp [evT,zbw],fun q=>by simp [evT] at q,fun _ _=>by show 0<=t.loaded+1/\t.loaded+1<=65536;omega⟩
theorem zajv(a:zy)(t:Task)(n:Int):EBL (zdy a t n).2.2.1:=by
 unfold zdy;simp only
 split
 ·exact .nil
 split
 ·exact .nil
 split
 ·split<;>exact .nil
 split
 ·split<;>exact .nil
 split
 ·exact .nil
 ·exact .one (.plain (by simp [evT,zbw]) (.inl (by simp [evT])) (.inl (by simp [evT])))
theorem zamq{u:Setup}{a:zy}{t:Task}{n N:Int}(ha:AI u a)(ht:TI u N t):EBL (zdO a t n).2.2.1:=by
 have h:∀t,t.sec.dead.l.length<=24->EBL (zdk t).2:=by
  intro t hd;unfold zdk;simp only
  split
  ·exact .nil
  split
  ·exact .one (.plain (by simp [zb9,zbw]) (.inr rfl) (.inl (by simp [zb9])))
  split
  ·exact .one (.plain (by simp [zb9,zbw]) (.inr rfl) (.inl (by simp [zb9])))
  ·have:=zQW t.sec.dead (zf9 t) t.sec.snap.epoch;refine .one (.plain ?_ (.inl (by simp [zb9])) (.inl (by simp [zb9])));simp only[zabE];omega
 unfold zdO
 by_cases c:zan t 8 8=0
 ·rw[zabn (fun q=>q c)];obtain⟨g1,g2⟩:=zeQ c
  by_cases c1:t.pc=0
  ·rw[zabo c1];exact .nil
  rw[zabn c1];simp only;have hg0:=zkh (n:=n) ha (ht.se ⟨c1,by omega⟩);generalize goT a t n=g at *
  by_cases c2:g.2.2.2.2=0
  ·rw[zabn (fun q=>q c2)];obtain⟨h1,s,h2,h3,h4⟩:=hg0 c2
   split
   ·refine h _ ?_;rw[h2];exact h3.si.dv
   split
   ·exact .nil
   split<;>exact .nil
  ·rw[zabo c2];exact .nil
 ·rw[zabo c];exact .nil
theorem zanr(K:Tok)(a:zy)(t:Task)(n:Int):EBL (zdS K a t n).2.2.1:=by
 have ek:∀o,ziG o≠3/\ziG o≠7:=by
  unfold ziG at *; exact zF
 have h:∀t,EBL (zdn t).2:=by
  intro t;unfold zdn;simp only
  split
  ·exact .nil
  ·exact .one (.plain (by simp [zb9,zbw]) (.inl (ek _).1) (.inl (ek _).2))
 unfold zdS zbv;simp only
 split
 ·exact .nil
 split
 ·split
  ·exact .one (.plain (by simp [evT,zbw]) (.inr rfl) (.inl (ek _).2))
  ·exact .nil
 split
 ·exact .nil
 generalize goT a t n=g
 split
 ·exact .nil
 split
 ·exact h _
 split
 ·exact .nil
 split<;>exact .nil
theorem zanf(K:Tok)(a:zy)(t:Task)(n:Int):EBL (zdQ K a t n).2.2.1:=by
 have h:∀t,EBL (zdm K t).2:=by
  intro t;unfold zdm;simp only
  split
  ·exact .nil
  split
  ·split
   ·exact .nil
   ·exact .one (.plain (by simp [zb9]) (.inl (by simp [zb9])) (.inl (by simp [zb9])))
  ·exact .one (.plain (by simp [zb9]) (.inl (by simp [zb9])) (.inl (by simp [zb9])))
 unfold zdQ zbv;simp only
 split
 ·exact .nil
 split
 ·split
  ·exact .one (.plain (by simp [evT,zbw]) (.inr rfl) (.inl (by simp [evT])))
  ·exact .nil
 split
 ·split<;>exact .nil
 split
 ·exact .nil
 generalize goT a t n=g
 split
 ·exact .nil
 split
 ·exact h _
 split
 ·exact .nil
 split
 ·exact .nil
 split<;>exact .nil
theorem zamm(K:Tok)(a:zy)(t:Task)(n:Int):EBL (zdN K a t n).2.2.1:=by
 have h:∀t,EBL (zdj t).2:=by
  intro t;unfold zdj;simp only
  split
  ·exact .nil
  split
  ·exact .one (.plain (by simp [zb9,zbw]) (.inr rfl) (.inl (by simp [zb9])))
  have hl:=zQX { t with loaded:=0 };have hg:=zanC { t with loaded:=0 };generalize zda { t with loaded:=0 }=r at *;have e1:EBL (if 0<r.2.1.length then [{ zb9 { t with loaded:=0 } 10 with l:=r.2.1.map fun i=>⟨i,0,0,0⟩ }] else []):=
   .if_ (.one (.plain (by simp only[zabE];omega) (.inl (by simp [zb9])) (.inl (by simp [zb9])))) .nil
  split
  ·refine .app e1 (.one ⟨by simp only[zabE];omega,fun _ _ g hg2=> ?_,fun q=>by simp [zb9] at q⟩);obtain⟨y,hy,rfl⟩:=zaby.1 hg2;exact hg y hy
  split
  ·exact .app e1 (.one (.plain (by simp [zb9,zbw]) (.inr rfl) (.inl (by simp [zb9]))))
  ·exact e1
 unfold zdN zbv;simp only
 split
 ·exact .nil
 split
 ·exact .nil
 split
 ·exact .nil
 generalize goT a t n=g
 split
 ·exact .nil
 split
 ·exact h _
 split
 ·exact .nil
 split
 ·exact .nil
 split
 ·exact .nil
 split<;>exact .nil
theorem zanD{K:Tok}{u:Setup}{a:zy}{t:Task}{n N:Int}(ha:AI u a)(ht:TI u N t):EBL (zbZ K a t n).2.2.1:=by
 have none8:∀ {l:List Event},l=[]->EBL l:=fun h=>by rw[h];exact .nil
 unfold zbZ
 by_cases c0:t.done=true
 ·rw[zabo c0];exact .nil
 rw[zabn c0]
 by_cases c1:t.inv.kind=1
 ·rw[zabo c1];exact zanf K a t n
 rw[zabn c1]
 by_cases c2:t.inv.kind=2
 ·rw[zabo c2];exact zamm K a t n
 rw[zabn c2]
 by_cases c3:3<=t.inv.kind/\t.inv.kind<=5
 ·rw[zabo c3];exact zanr K a t n
 rw[zabn c3]
 by_cases c6:t.inv.kind=6
 ·rw[zabo c6];exact zal8 ht
 rw[zabn c6]
 by_cases c7:t.inv.kind=7
 ·rw[zabo c7];exact zajv a t n
 rw[zabn c7]
 by_cases c8:t.inv.kind=8
 ·rw[zabo c8];exact zamq ha ht
 rw[zabn c8]
 by_cases c9:t.inv.kind=9
 ·rw[zabo c9];refine zaf4 (fun t=>none8 ?_) _ _ _ _ _ _;unfold zey;simp only;repeat' split
  all_goals rfl
 rw[zabn c9]
 by_cases c10:t.inv.kind=10
 ·rw[zabo c10];refine zaf4 (fun t=>none8 ?_) _ _ _ _ _ _;unfold zew;simp only;repeat' split
  all_goals rfl
 rw[zabn c10]
 by_cases c11:t.inv.kind=11
 ·rw[zabo c11];refine zaf4 (fun t=>none8 ?_) _ _ _ _ _ _;unfold zek;simp only;repeat' split
  all_goals rfl
 rw[zabn c11]
 by_cases c12:t.inv.kind=12\/t.inv.kind=13
 ·rw[zabo c12];refine zaf4 (fun t=> ?_) _ _ _ _ _ _;have:(zdW t).2.2=[]\/∃e,(zdW t).2.2=[e]/\e.kind=10/\e.l.length<=12:=by
   unfold zdW;simp only
   repeat' split
   all_goals first
    | exact .inl rfl
    | exact .inr ⟨_,rfl,rfl,by simp only[zabE];exact zHv _ _ _ _⟩
  rcases this with q|⟨y,q,ky,kl⟩
  ·rw[q];exact .nil
  ·rw[q];exact .one (.plain zo (.inl zo) (.inl zo))
 rw[zabn c12]
 by_cases c14:t.inv.kind=14
 ·rw[zabo c14];refine zaf4 (fun t=>none8 ?_) _ _ _ _ _ _;unfold zdx;simp only;repeat' split
  all_goals rfl
 rw[zabn c14];exact .nil
def WE(u:Setup)(w:World):Prop:=WI u w/\EBL w.log
theorem zanw{K:Tok}(hK:zis K){u:Setup}{w:World}{i:Nat}(hw:WE u w)(hi:i<w.tasks.length)(e:(zcO K w i).2=0):WE u (zcO K w i).1:=by
 refine⟨z9M hK hw.1 hi e,?_⟩;have hb:=zanD (K:=K) (n:=w.steps+1) hw.1.ar (hw.1.ts _ (zabC hi));unfold zcO at e ⊢;simp only[zh hi] at e ⊢
 by_cases c:(zbZ K w.arena w.tasks[i] (w.steps+1)).2.2.2=0
 ·rw[zabn (fun q=>q c)];exact hw.2.app hb
 ·rw[zabo c] at e;exact absurd e c
theorem zanH{u:Setup}{w:World}{n:Int}(hw:WE u w)(e:(zdX w n).2=0):WE u (zdX w n).1:=by
 refine⟨zaaj hw.1 e,?_⟩;unfold zdX at e ⊢
 split at e
 ·rename_i c;exact absurd e c
 rename_i c;rw[zabn c];exact hw.2.app (.one (.plain (by simp [zbw]) (.inr rfl) (.inl (by simp))))
theorem zalp{u:Setup}{w:World}{i:zaeE}(hw:WE u w)(e:(zcJ w i).2.2=0):WE u (zcJ w i).1:=by
 refine⟨zX8 hw.1 e,?_⟩;have h:=hw.2;unfold zcJ at *; exact zF
theorem zalZ{K:Tok}(hK:zis K){u:Setup}(k:Int):∀(n:Nat) (w:World),WE u w->(zh6 K k n w).2=0->WE u (zh6 K k n w).1:=by
 intro n
 induction n with
 | zero=>intro w hw _;exact hw
 | succ n ih=>
  intro w hw e;unfold zh6 at e ⊢
  by_cases c:(zbj w).length=0
  ·rw[zabo c];exact hw
  rw[zabn c] at e ⊢
  by_cases c2:(zc2 K w ((zbo k 0).tmod (zbj w).length)).2=0
  ·rw[zabn (fun q=>q c2)] at e ⊢;refine ih _ ?_ e;generalize (zbo k 0).tmod (zbj w).length=j at *;unfold zc2 at c2 ⊢
   by_cases c3:j<0\/((zbj w).length:Int)<=j
   ·rw[zabo c3] at c2;cases c2
   ·rw[zabn c3] at c2 ⊢;exact zanw hK hw (zMK zo) c2
  ·rw[zabo c2] at e;exact absurd e c2
theorem zam3{K:Tok}(hK:zis K){u:Setup}:∀(l:List Command) (w:World),WE u w->(zer K l w).2=0->WE u (zer K l w).1:=by
 intro l
 induction l with
 | nil=>intro w hw _;exact hw
 | cons c l ih=>
  intro w hw e;unfold zer at e ⊢
  by_cases c1:(doW K w c).2=0
  ·rw[zabn (fun q=>q c1)] at e ⊢;refine ih _ ?_ e;unfold doW at c1 ⊢;simp only at c1 ⊢
   by_cases d1:c.kind=1
   ·rw[zabo d1] at c1 ⊢; exact zalZ hK _ _ _ hw c1
   rw[zabn d1] at c1 ⊢
   by_cases d2:c.kind=2
   ·rw[zabo d2]
    split
    ·rename_i h;exact zanH hw h
    ·exact hw
   rw[zabn d2] at c1 ⊢
   by_cases d3:c.kind=3
   ·rw[zabo d3];generalize (if 0<c.refs.length then { c.inv with tokens:=c.refs.map fun r=>zeZ K r w.handles } else c.inv)=v
    split
    ·rename_i h;exact zalp hw h
    ·exact hw
   ·rw[zabn d3];exact hw
  ·rw[zabo c1] at e;exact absurd e c1
theorem zam4{K:Tok}(hK:zis K){u:Setup}{l:List Command}(e:(zgw K u l).2=0):WE u (zgw K u l).1:=by
 unfold zgw at e ⊢
 by_cases c1:(zbL u).2=0
 ·rw[zabn (fun q=>q c1)] at e ⊢
  by_cases c2:400<l.length
  ·rw[zabo c2] at e;cases e
  rw[zabn c2] at e ⊢;refine zam3 hK l _ ?_ e;have hu:za3 u=true:=by
   unfold zbL at *; exact zF
  exact⟨{ hu:=hu,su:=rfl,ar:=zR6 c1,ts:=fun t h=>(by cases h),tl:=by simp [zbc],st:=by simp [zbc] },fun _ q=>by cases q⟩
 ·rw[zabo c1] at e;exact absurd e c1
theorem zanS(l:List Int)(a n:Nat)(hL:l.length<=4000)(hn:n<=400):∃(w:World) (u:Setup) (a':Nat),u.slots<=4/\QI u 102000 w/\EBL w.log/\zi G 9 [.ref 1000000 0 0,.d (.int .i64 n)] [(1000000,srcO l a)]=some (.d (zabc w),[(1000000,srcO l a')]):=by
 obtain⟨u,a1,hu4,hset⟩:=z9b l a hL;have h4:u.slots<=4:=hu4.2.1;clear hu4;obtain⟨cs,a2,h1,h2,hscr⟩:=z8B l a1 n hL hn;have hrun:=z7W (u:=u) (l:=cs) h4 zo (zIS h2);have hnew:=zMv zjj (by decide);have e0:(zc1 zjj).2=0:=by
  unfold zc1 zbL;simp [za3,inI,zjj]
 have hq0:=zBr (u:=zjj) e0;have hg0:EBL (zc1 zjj).1.log:=by
  unfold zc1
  split<;>exact EBL.nil
 have hq:=z7Z (u:=u) (l:=cs) zo (zIS h2);have hg:=fun e=>(zam4 zlh.ok (u:=u) (l:=cs) e).2;clear e0 h2;generalize zgw zaB u cs=r at *;generalize zc1 zjj=r0 at *;obtain⟨w,e⟩:=r;obtain⟨w0,e0⟩:=r0;simp only[srcO] at *
 by_cases c:e=0
 ·subst c;refine⟨w,u,a2,h4,hq rfl,hg rfl,?_⟩;clear hq hq0 hnew hg hg0;have sz_w:=za6 w;generalize zabc w=D_w at *;have sz_u:=zHe u;generalize zaJ u=D_u at *;rw[zI zH0 (by simp)];simp -implicitDefEqProofs (maxSteps:=4000000) (disch:=omega) only[zD0,zh,go_sem, *];(try simp only[zPr]);repeat' (first|done|rfl|((first|refine zad (fun hq=> ?_) (fun hq=> ?_)|refine zaj (fun hq=> ?_) (fun hq=> ?_))<;>(try (first|(exfalso;omega)|contradiction))<;>(try simp -implicitDefEqProofs (maxSteps:=4000000) (disch:=omega) only[zh,go_sem, *])<;>(try simp only[zPr])));(all_goals try rfl);(all_goals try (repeat' (first|done|rfl|(exfalso;omega)|contradiction|(refine zae (fun hq=> ?_) (fun hq=> ?_)))))
 ·refine⟨w0,zjj,a2,by decide,hq0.mono zo,hg0,?_⟩;replace c:=zabt c;clear hq hq0 hg hg0;simp only[zaJ,zjj] at hnew;have sz_w:=za6 w;generalize zabc w=D_w at *;have sz_w0:=za6 w0;generalize zabc w0=D_w0 at *;have sz_u:=zHe u;generalize zaJ u=D_u at *;rw[zI zH0 (by simp)];simp -implicitDefEqProofs (maxSteps:=4000000) (disch:=omega) only[zD0,zh,go_sem, *];(try simp only[zPr]);repeat' (first|done|rfl|((first|refine zad (fun hq=> ?_) (fun hq=> ?_)|refine zaj (fun hq=> ?_) (fun hq=> ?_))<;>(try (first|(exfalso;omega)|contradiction))<;>(try simp -implicitDefEqProofs (maxSteps:=4000000) (disch:=omega) only[zh,go_sem, *])<;>(try simp only[zPr])));(all_goals try rfl);(all_goals try (repeat' (first|done|rfl|(exfalso;omega)|contradiction|(refine zae (fun hq=> ?_) (fun hq=> ?_)))))
def zie(R:List Event):zd:=[(1000000,.row ((R.map zaw).map .d))]
def stF(e:Event):Int:=e.stamp
theorem zamB{R:List Event}{i:Nat}{x:Event}(h:R[i]? = some x):i<R.length:=by
 rcases zadm i R.length with c|c
 ·exact c
 ·rw[zadl c] at h;cases h
end Go.Proofs.YtcembpbhkcbnhaaGreat
