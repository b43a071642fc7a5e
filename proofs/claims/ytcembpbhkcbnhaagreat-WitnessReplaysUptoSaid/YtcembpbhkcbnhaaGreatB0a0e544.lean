/-
  slices.
-/
import Derived.Test.YtcembpbhkcbnhaaGreatBab93df0
import Derived.WalkKit
import Derived.Deep.LoopGhost
import Derived.Deep.RegionLaw
import Derived.Shelf.RegionOpenPlain
import Derived.Lib.Walk
import Derived.Lib.SliceRun
import Derived.Lib.JoinLaws
import Derived.Lib.AppendZerosOnto
import Derived.Laws.Externs
import Derived.Laws.IdiomCopy
import Derived.Laws.NewBlocks
import Derived.Test.YtcembpbhkcbnhaaGreatBe288a21
import Derived.Test.YtcembpbhkcbnhaaGreatB3e4d643
import Derived.Test.YtcembpbhkcbnhaaGreatProg
set_option linter.unusedSimpArgs false
set_option linter.unusedVariables false
set_option maxHeartbeats 10000000
set_option maxRecDepth 100000
namespace Go.Sim
open Go (World Value Addr TypeId Act Oper Operand Op Callee Builtin Exit Program Obj)
variable {P:Program}
theorem zagg (w:World) (dT sT ty elem:TypeId) (s b o dLen dCap:Nat) (a:Addr) (sLen sCap:Nat) (cs:List Value)
    (hu:P.underlying dT=some (.slice elem)) (hs:(P.info? elem).map (·.size)=some s) (hn:cs.length=Nat.min sLen dLen * s)
    (hsrc:∀j v,cs[j]? = some v->w.cell? (a.add j)=some v) (hc:∀j,j<cs.length->(w.cell? ⟨b,o+j,none⟩).isSome=true) (hf:∀j,j<cs.length->w.frozen? ⟨b,o+j,none⟩=false) (h1:∀v∈cs,v.oneCell'=true):
    (Builtin.copy_ #[dT,sT] ty #[.slice (some ⟨b,o,none⟩) dLen dCap,.slice (some a) sLen sCap]).run P w= .ok (goInt (Nat.min sLen dLen)) (w.setCells b o cs):=by
 have hl:=run_firstCells_some (P:=P) w s (Nat.min sLen dLen) a sLen sCap cs hn hsrc;have hst:=run_storeCells_cells (P:=P) b o cs 0 w (by simpa using hc) (by simpa using hf) h1
 cases hq:P.info? elem with
 | none=>simp [hq] at hs
 | some i=>
  have hi:i.size=s:=by simpa [hq] using hs
  subst hi;simp only[Nat.min_def] at hl;simp [Builtin.copy_,run_underlying hu,Builtin.lenOf,sizeOf,typeInfo,hq,Nat.min_def,hl,hst]
theorem zalX (w:World) (tS tR e:TypeId) (ht:P.underlying tS=some (.slice e)) (size:Nat) (hz:∀w,(Go.sizeOf e).run P w= .ok size w)
    (a b:Addr) (la ca lb cb:Nat) (hne:a.block≠b.block) {A B:Array Value} {TA TB:TypeId} {f:Nat×Nat} (hA:w.heap[a.block]? = some (.cells A TA f)) (hB:w.heap[b.block]? = some (.cells B TB (0,0))) (h0:B.size≠0) (hA0:A.size≠0):
    (Extern.SlicesOverlaps.overlaps #[tS,tS] #[tR] #[.slice (some a) la ca,.slice (some b) lb cb]).run P w= .ok (.bool false) w:=by
 have hnb:(a.block != b.block)=true:=by simpa using hne
 have hnb':(a.block==b.block)=false:=by simpa using hne
 have hsa:w.shape? a.block=some (TA,A.size):=by simp [World.shape?,hA]
 have hsb:w.shape? b.block=some (TB,B.size):=by simp [World.shape?,hB]
 have hfb:∀(b':Addr),b'.block=b.block->w.frozen? b'=false:=fun b' h=>by simp [World.frozen?,h,hB]
 change Sem.run P (α:=Value) (do
  let some t:=(#[tS,tS]:Array TypeId)[0]? | stuck "slices.overlaps: no parameter types"
  let .slice elem <- underlying t|stuck "slices.overlaps: slice type expected"
  let size <- sizeOf elem
  match (some a:Option Addr),(some b:Option Addr) with
  | some a,some b=>
   if la=0\/lb=0\/size=0 then pure (Value.bool false)
   else if a.block != b.block&&(<- frozen a)&&(<- frozen b) then unsupported .addressObserved
   else do
    if a.block != b.block then do
     noView a;noView b
     if <- mayBeOne a b then return Value.bool ((<- choose (.extern "sameAddr.stringBytes" 2))==1)
    pure (Value.bool (a.block==b.block&&a.off<b.off+lb * size&&b.off<a.off+la * size))
  | _,_=>pure (Value.bool false)) w=_
 by_cases h:la=0\/lb=0\/size=0
 ·simp [run_underlying ht,hz,h]
 ·cases hk:B.size with
  | zero=>exact absurd hk h0
  | succ kB=>
   obtain⟨kA,hkA⟩:∃kA,A.size=kA+1:=⟨A.size - 1,by omega⟩;rw[hk] at hsb;rw[hkA] at hsa;have f1:=hfb b rfl;have f2:w.frozen? { block:=b.block,off:=kB+1 }=false:=hfb _ rfl
   cases g1:w.frozen? a<;>cases g2:w.frozen? { block:=a.block,off:=kA+1 }<;>
    simp [run_underlying ht,hz,h,hnb,hnb',frozen,noView,viewAt,mayBeOne,stringish,shape,Sem.run,hsa,hsb,f1,f2,g1,g2]
theorem zanT (w:World) {o:Oper} {a:Act} {K:Act->World->Prop} {Q:Exit->Act->World->Prop} (d s:Operand) (t t':TypeId)
    (ho:o.op= .call { callee:= .builtin .copy,args:= #[d,s],argTypes:= #[t,t'] }) (v u:Value) (hd:a.eval d=v) (hs:a.eval s=u) {v':Value} {w':World}
    (hr:(Builtin.copy_ #[t,t'] o.type #[v,u]).run P w= .ok v' w') (h:K (a.put o.dst v') w'):o.wp P a w K Q:=by
 unfold Oper.wp execOp;simp only[ho,resolve,invoke,builtin,Sem.run_bind,Sem.run_pure,Result.andThen_ok,List.map_toArray,zabs,zabq,hd,hs,hr];exact h
theorem zagZ (w:World) {ops:Array Oper} {rest:List Oper} {o:Oper} {a:Act} {Q:Exit->Act->World->Prop} (hgd:o.guard=none) (d s:Operand) (t t':TypeId)
    (ho:o.op= .call { callee:= .builtin .copy,args:= #[d,s],argTypes:= #[t,t'] }) (v u:Value) (hd:a.eval d=v) (hs:a.eval s=u) {v':Value} {w':World}
    (hr:(Builtin.copy_ #[t,t'] o.type #[v,u]).run P w= .ok v' w') (h:wpList P ops Q rest (a.put o.dst v') w'):wpList P ops Q (o::rest) a w:=
 wpList_plain hgd fun _ hK=>zanT w d s t t' ho v u hd hs hr (hK _ _ h)
theorem zaja {ops:Array Oper} {o:Oper} {a:Act} {w:World} {K:Act->World->Prop} {Q:Exit->Act->World->Prop} {E:Prop}
    (hg:o.guard=none) (d x:Operand) (dT sT:TypeId) (hop:o.op=Op.call { callee:=Callee.builtin Builtin.copy,args:= #[d,x],argTypes:= #[dT,sT] })
    (v u:Value) (hd:a.eval d=v) (hx:a.eval x=u) {v':Value} {w':World} (hr:(Builtin.copy_ #[dT,sT] o.type #[v,u]).run P w= .ok v' w') (hK:K (a.put o.dst v') w'):
    if Region.wanted o (yielded ops a.tmps)=true then Oper.wp P o a w K Q else E:=by
 have hw:Region.wanted o (yielded ops a.tmps)=true:=by simp [Region.wanted,hg]
 rw[zabo hw];unfold Oper.wp;simp [execOp,hop,resolve,invoke,builtin,hd,hx,hr,Result.andThen];exact hK
theorem zai6(b:Nat)(vs:List Value)(o:Nat)(w:World)(h:∀j,j<vs.length->(w.cell? ⟨b,o+j,none⟩).isSome=true)(k:Nat)(hk:(w.cell? ⟨b,k,none⟩).isSome=true):((w.setCells b o vs).cell? ⟨b,k,none⟩).isSome=true:=by
 by_cases hin:o<=k/\k<o+vs.length
 ·have:=World.cell?_setCells_in b vs o w h (k - o) (by omega);rw[show o+(k - o)=k by omega] at this;rw[this];rfl
 ·rw[World.cell?_setCells_out b vs o w ⟨b,k,none⟩ (fun _ _=>by show k<o\/o+vs.length<=k;omega)];exact hk
end Go.Sim

namespace Go.Sim
open Go (World Value Addr TypeId Act Ending Program)
variable {P:Program} {w:World} {R:Nat->Prop}
def zafA(w:World)(b n:Nat)(cells:List Value)(e:Ending)(w':World):Prop:=
 ∃(b' cap':Nat) (C':Array Value) (T':TypeId),e= .returned (.slice (some ⟨b',0,none⟩) n cap')/\n<=cap'/\w'.heap[b']? = some (.cells C' T' (0,0))/\(∀(j:Nat) (v:Value),cells[j]? = some v->C'[j]? = some v)/\(b'=b\/b'=w.heap.size)/\
  w.heap.size<=w'.heap.size/\(∀k,k<w.heap.size->k≠b->w'.heap[k]? = w.heap[k]?)/\Blk w w' b 0/\w'.os=w.os/\w'.tape=w.tape/\w'.output=w.output
theorem zbO.take{n:Nat}{ys:List D}{cs:List Value}(h:zbO w R n ys cs)(hz:∀e∈ys,e.size=n)(i:Nat):zbO w R n (ys.take i) (cs.take (i * n)):=by
 refine⟨?_,fun k e hk j c hc=> ?_⟩
 ·rw[zac9,zac9,h.1]
  by_cases hi:i<=ys.length
  ·have:=zab2 n hi;rw[Nat.min_eq_left this,Nat.min_eq_left hi]
  ·have:=zab2 n (Nat.le_of_not_le hi);rw[Nat.min_eq_right this,Nat.min_eq_right (by omega)]
 ·rw[zaed] at hk
  split at hk
  ·rename_i hki;obtain⟨h1,q,h2,h3⟩:=h.2 k e hk j c hc;refine⟨h1,q,?_,h3⟩;have hj:j<n:=by have:=(zabB.1 hc).1;have h2:=hz e (zabK hk);unfold D.size at h2;omega
   have:(k+1) * n<=i * n:=zab2 _ hki;rw[zacq] at this;rw[zaed,zabo (by omega)];exact h2
  ·cases hk
theorem zbO.drop{n:Nat}{ys:List D}{cs:List Value}(h:zbO w R n ys cs)(i:Nat):zbO w R n (ys.drop i) (cs.drop (i * n)):=by
 refine⟨by rw[zadA,zadA,h.1,Nat.sub_mul],fun k e hk j c hc=> ?_⟩;rw[zado] at hk;obtain⟨h1,q,h2,h3⟩:=h.2 _ e hk j c hc;refine⟨h1,q,?_,h3⟩;rw[zado, <- zadx, <- zach];exact h2
theorem zbO.app{n:Nat}{ys zs:List D}{cs ds:List Value}(h:zbO w R n ys cs)(h':zbO w R n zs ds)(hz:∀e∈ys,e.size=n):zbO w R n (ys++zs) (cs++ds):=by
 refine⟨by rw[zabv,zabv,h.1,h'.1,zach],fun k e hk j c hc=> ?_⟩
 by_cases hlt:k<ys.length
 ·rw[zacN hlt] at hk;obtain⟨h1,q,h2,h3⟩:=h.2 _ e hk j c hc;exact⟨h1,q,by rw[zacN (zabB.1 h2).1];exact h2,h3⟩
 ·rw[zacE (by omega)] at hk;obtain⟨h1,q,h2,h3⟩:=h'.2 _ e hk j c hc;refine⟨h1,q,?_,h3⟩;have:k * n=ys.length * n+(k - ys.length) * n:=by rw[<- zach];congr 1;omega
  rw[zacE (by rw[h.1];omega),h.1, <- h2];congr 1;omega
theorem zald {f:FuncId} {S:Nat} {ds xs es':List D} (h0:ds≠[]) (hS:0<S) (hz:∀e∈ds,e.size=S) (hz':∀e∈es',e.size=S) (hL:es'.length<=LIM)
    (H:∀(w:World) (R:Nat->Prop) (b c:Nat) (C:Array Value) (T:TypeId) (cs us:List Value),(∀k,R k->k<w.heap.size)->w.heap[b]? = some (.cells C T (0,0))->¬R b->ds.length<=c->c * S<=C.size->zbO w R S ds cs->(∀(j:Nat) (v:Value),cs[j]? = some v->C[j]? = some v)->
     us.length=xs.length->(∀(i:Nat) (x:D) (u:Value),xs[i]? = some x->us[i]? = some u->Rd w R (.v x u))->
     Calls P f (.slice (some ⟨b,0,none⟩) ds.length c::us).toArray w fun e w'=>∃cs',zbO w R S es' cs'/\zafA w b es'.length cs' e w'):
    GF P f (.osl 1000000 0 ds.length   :: xs.map .d) [(1000000,.row (ds.map .d))] (.d (.sl es')) [(1000000,.frz none)]:=by
 intro w R ι us hR hι hinj hob hv;obtain⟨hl,hg⟩:=hv
 cases us with
 | nil=>simp at hl
 | cons u0 us=>
  have hob0:=hob _ _ (.head _)
  cases hob0 with
  | @row _ b s c T h1 h2 h3 h4 h5 h6 h7=>
   obtain⟨e0,he0⟩:∃e,e∈ds:=zadp _ h0;have hsS:s=S:=by rw[<- h5 _ (zadw he0)];exact hz e0 he0
   subst hsS;have hu0:=hg 0 _ u0 rfl rfl;obtain⟨cap,hu,hcap,hcc⟩:∃cap,u0= .slice (some ⟨b,0,none⟩) ds.length cap/\ds.length<=cap/\cap * s<=c.size:=by
    generalize hn:ds.length=n at hu0
    cases hu0 with
    | osl0=>exact absurd (zacc.1 hn) h0
    | osl hι' hmk hb hlc hc hLL=>
     rw[h1] at hι';cases hι';rw[h3] at hb;cases hb;exact⟨_,by rw[Nat.zero_mul],hlc,by rwa [zabU] at hc⟩
   subst hu;obtain⟨cs,hcs,hrng⟩:=zvk (w:=w) (R:=R) (b:=b) (off:=0) h4 hz (fun i e hi=>by
    have hei:(ds.map AV.d)[i]? = some (.d e):=by rw[zabI,hi];rfl
    refine Rd.el_of_cells (fun vs hvs=> ?_) fun j cd hj=> ?_
    ·subst hvs;have:=(h7 i _ hei 0 (.d (.tup vs)) rfl).1;simp [AV.cell,D.cell] at this
    ·obtain⟨k1,q,k2,k3⟩:=h7 i _ hei j (.d cd) (by simp [AV.cells,hj]);exact⟨k1,q,by rw[zcq h3,zabU];exact k2,k3.of_d⟩)
   have hb:=(zacl.1 h3).1;refine (H w R b cap c T cs us hR h3 h2 hcap hcc hcs (fun j v hj=>by have:=hrng j v hj;rwa [zcq h3,zabU] at this) (by simpa using hl) (fun i x u hx hu=>(hg (i+1) (.d x) u (by simp [hx]) (by simpa using hu)).of_d)).mono fun e w'=> ?_;rintro⟨cs',hcs',b',cap',C',T',rfl,p2,p3,p4,p5,p6,p7,p8,p9,p10,p11⟩;have hb':=(zacl.1 p3).1;have hK:zbK R w w':=fun k hk=>p7 k (hR k hk) (fun e=>h2 (e ▸ hk));refine⟨_,ι,fun k=>R k\/k=b\/k=b',rfl,p9,p10,p11,p6,fun k hk=> ?_,fun k hk hn=>p7 k hk fun e=>hn _ _ (e ▸ h1),fun _ h=> .inl h,?_,fun _ _ _ h=>h,fun o k s' hk=>⟨zaco (hι o k s' hk).1 p6,.inl hk⟩,hinj,?_,.d ?_⟩
   ·by_cases e:k=b
    ·subst e;exact p8
    ·exact Blk.of_eq (p7 k hk e)
   ·rintro k (hk|rfl|rfl)
    ·exact⟨zaco (hR k hk) p6,.inl hk⟩
    ·exact⟨zaco hb p6,.inr (.inr ⟨1000000,s,h1,by simp [look]⟩)⟩
    ·refine⟨hb',?_⟩
     rcases p5 with rfl|rfl
     ·exact .inr (.inr ⟨1000000,s,h1,by simp [look]⟩)
     ·exact .inr (.inl (zabR _))
   ·intro o ob hm;simp only[zab1,Prod.mk.injEq] at hm;obtain⟨rfl,rfl⟩:=hm;exact .frz fun b2 s2 hb2=>by rw[h1] at hb2;cases hb2;exact⟨.inr (.inl rfl),h4⟩
   ·by_cases hn:es'=[]
    ·subst hn;exact .sl0
    ·refine .sl (.inr (.inr rfl)) hn h4 hL p2 hz' fun i e hi=> ?_;refine Rd.el_of_cells (fun vs hvs=> ?_) fun j x hj=> ?_
     ·subst hvs;have:=(hcs'.2 i _ hi 0 (.tup vs) rfl).1;simp [D.cell] at this
     ·obtain⟨k1,q,k2,k3⟩:=hcs'.2 i e hi j x hj;exact⟨k1,q,by rw[zcq p3,zabU];exact p4 _ _ k2,k3.mono_v (fun _ h=> .inl h) hK⟩
theorem zanN{es:List D}:WF 1 (.d (.sl es)) [(1000000,.frz none)]:=by
 refine⟨fun n hn=> ?_,fun i hi=> ?_,fun q hq=>by simp [AV.refs] at hq,fun n ob h q hq=> ?_⟩
 ·simp only[look] at hn
  split at hn
  ·omega
  ·cases hn
 ·have:i=0:=by omega
  subst this;right;rfl
 ·simp only[zab1,Prod.mk.injEq] at h;obtain⟨rfl,rfl⟩:=h;simp [Obj.refs] at hq
theorem zag3{w w':World}{b:Nat}(h:∀c T,w.heap[b]? = some (.cells c T (0,0))->∃c',w'.heap[b]? = some (.cells c' T (0,0))/\c'.size=c.size):Blk w w' b 0:=fun c T hc=>by
 obtain⟨c',h1,h2⟩:=h c T hc;exact⟨c',h1,h2,fun j hj=>by omega⟩
theorem zal5 {b n c p q:Nat} {C:Array Value} {T:TypeId} {us vs cells:List Value} (hb:w.heap[b]? = some (.cells C T (0,0))) (hn:n<=c) (hu:p+us.length<=C.size) (hv:q+vs.length<=C.size)
    (hcells:∀(j:Nat) (v:Value),cells[j]? = some v->(if q<=j/\j<q+vs.length then vs[j - q]? else if p<=j/\j<p+us.length then us[j - p]? else C[j]?)=some v):
    zafA w b n cells (.returned (.slice (some ⟨b,0,none⟩) n c)) ((w.drew.setCells b p us).setCells b q vs):=by
 obtain⟨c1,a1,a2,a3⟩:=zCL w.drew b p us (show w.drew.heap[b]? = _ from hb);obtain⟨c2,b1,b2,b3⟩:=zCL (w.drew.setCells b p us) b q vs a1;obtain⟨r1,r2,r3,r4⟩:=zCM w.drew b p us;obtain⟨s1,s2,s3,s4⟩:=zCM (w.drew.setCells b p us) b q vs;refine⟨b,c,c2,T,rfl,hn,b1,fun j v hj=> ?_,.inl rfl,by rw[s4,r4];exact zabR _,fun k _ hk=> ?_,zag3 fun c' T' hc'=> ?_,s1.trans r1,s2.trans r2,s3.trans r3⟩
 ·rw[b3, <- hcells j v hj]
  by_cases h1:q<=j/\j<q+vs.length
  ·rw[zabo ⟨h1.1,h1.2,by omega⟩,zabo h1]
  ·rw[zabn (fun h=>h1 ⟨h.1,h.2.1⟩),zabn h1,a3]
   by_cases h2:p<=j/\j<p+us.length
   ·rw[zabo ⟨h2.1,h2.2,by omega⟩,zabo h2]
   ·rw[zabn (fun h=>h2 ⟨h.1,h.2.1⟩),zabn h2]
 ·rw[zdR _ _ _ _ hk,zdR _ _ _ _ hk];rfl
 ·rw[hb] at hc';cases hc';exact⟨c2,b1,b2.trans a2⟩
theorem zal4{b n c:Nat}{C:Array Value}{T:TypeId}{cs vs:List Value}(hb:w.heap[b]? = some (.cells C T (0,0)))(hn:n<=c)(hv:cs.length+vs.length<=C.size)(hcs:∀(j:Nat) (v:Value),cs[j]? = some v->C[j]? = some v):
    zafA w b n (cs++vs) (.returned (.slice (some ⟨b,0,none⟩) n c)) (w.setCells b cs.length vs):=by
 obtain⟨c2,b1,b2,b3⟩:=zCL w b cs.length vs hb;obtain⟨s1,s2,s3,s4⟩:=zCM w b cs.length vs;refine⟨b,c,c2,T,rfl,hn,b1,fun j v hj=> ?_,.inl rfl,by rw[s4];exact zabR _,fun k _ hk=>zdR _ _ _ _ hk,zag3 fun c' T' hc'=> ?_,s1,s2,s3⟩
 ·have hlt:=(zabB.1 hj).1;rw[zabv] at hlt;rw[b3]
  by_cases h1:cs.length<=j
  ·rw[zabo ⟨h1,by omega,by omega⟩];rwa [zacE h1] at hj
  ·rw[zabn (fun h=>h1 h.1)];exact hcs j v (by rwa [zacN (by omega)] at hj)
 ·rw[hb] at hc';cases hc';exact⟨c2,b1,b2⟩
theorem zagM{o:Go.Obj}{k:Nat}(h:k<w.heap.size):(w.alloc o).heap[k]? = w.heap[k]? := by
 simp only[World.alloc,Array.getElem?_push];rw[zabn (by omega)]
theorem zaiD{o:Go.Obj}:(w.alloc o).heap[w.heap.size]? = some o:=by simp only[World.alloc,Array.getElem?_push_size]
theorem zaiE{o:Go.Obj}:(w.alloc o).heap.size=w.heap.size+1:=by simp only[World.alloc,Array.size_push]
theorem zaiS{b n G:Nat}{T:TypeId}{cells:List Value}{zs:Array Value}(hn:n<=G):zafA w b n cells (.returned (.slice (some ⟨w.heap.size,0,none⟩) n G)) (w.drew.alloc (.cells (cells.toArray++zs) T (0,0))):=by
 refine⟨w.heap.size,G,_,T,rfl,hn,zaiD (w:=w.drew),fun j v hj=> ?_,.inr rfl,by rw[zaiE];exact Nat.le_succ _,fun k hk _=>zagM (w:=w.drew) hk,?_,rfl,rfl,rfl⟩
 ·have hlt:=(zabB.1 hj).1;rw[zad5 (by simpa using hlt)];simpa using hj
 ·intro c T' hc;have hk:=(zacl.1 hc).1;exact⟨c,by rw[zagM (w:=w.drew) hk];exact hc,rfl,fun _ _=>rfl⟩
theorem zal3 {b n G p q:Nat} {T:TypeId} {us vs cells:List Value} {C:Array Value} (hn:n<=G) (hu:p+us.length<=C.size) (hv:q+vs.length<=C.size)
    (hcells:∀(j:Nat) (v:Value),cells[j]? = some v->(if q<=j/\j<q+vs.length then vs[j - q]? else if p<=j/\j<p+us.length then us[j - p]? else C[j]?)=some v):
    zafA w b n cells (.returned (.slice (some ⟨w.heap.size,0,none⟩) n G)) ((((w.alloc (.cells C T (0,0))).drew.setCells w.heap.size p us).drew).setCells w.heap.size q vs):=by
 obtain⟨c1,a1,a2,a3⟩:=zCL (w.alloc (.cells C T (0,0))).drew w.heap.size p us (zaiD (w:=w));obtain⟨c2,b1,b2,b3⟩:=zCL ((w.alloc (.cells C T (0,0))).drew.setCells w.heap.size p us).drew w.heap.size q vs a1;obtain⟨r1,r2,r3,r4⟩:=zCM (w.alloc (.cells C T (0,0))).drew w.heap.size p us;obtain⟨s1,s2,s3,s4⟩:=zCM ((w.alloc (.cells C T (0,0))).drew.setCells w.heap.size p us).drew w.heap.size q vs;have hsz:w.heap.size<=((((w.alloc (.cells C T (0,0))).drew.setCells w.heap.size p us).drew).setCells w.heap.size q vs).heap.size:=by
  rw[s4];show _<=((w.alloc (.cells C T (0,0))).drew.setCells w.heap.size p us).heap.size;rw[r4];show _<=(w.alloc (.cells C T (0,0))).heap.size;rw[zaiE];exact Nat.le_succ _
 have hold:∀k,k<w.heap.size->((((w.alloc (.cells C T (0,0))).drew.setCells w.heap.size p us).drew).setCells w.heap.size q vs).heap[k]? = w.heap[k]? := fun k hk=>by
  rw[zdR _ _ _ _ (by omega)];show ((w.alloc (.cells C T (0,0))).drew.setCells w.heap.size p us).heap[k]? = _;rw[zdR _ _ _ _ (by omega)];exact zagM hk
 refine⟨w.heap.size,G,c2,T,rfl,hn,b1,fun j v hj=> ?_,.inr rfl,hsz,fun k hk _=>hold k hk,fun c' T' hc'=> ?_,s1.trans r1,s2.trans r2,s3.trans r3⟩
 ·rw[b3, <- hcells j v hj]
  by_cases h1:q<=j/\j<q+vs.length
  ·rw[zabo ⟨h1.1,h1.2,by omega⟩,zabo h1]
  ·rw[zabn (fun h=>h1 ⟨h.1,h.2.1⟩),zabn h1,a3]
   by_cases h2:p<=j/\j<p+us.length
   ·rw[zabo ⟨h2.1,h2.2,by omega⟩,zabo h2]
   ·rw[zabn (fun h=>h2 ⟨h.1,h.2.1⟩),zabn h2]
 ·have hk:=(zacl.1 hc').1;exact⟨c',by rw[hold _ hk];exact hc',rfl,fun _ _=>rfl⟩
theorem zalc {f:FuncId} {S:Nat} {xs es':List D} (hS:0<S) (hz':∀e∈es',e.size=S) (hL:es'.length<=LIM)
    (H:∀(w:World) (R:Nat->Prop) (a:Option Addr) (us:List Value),(∀k,R k->k<w.heap.size)->us.length=xs.length->(∀(i:Nat) (x:D) (u:Value),xs[i]? = some x->us[i]? = some u->Rd w R (.v x u))->
     Calls P f (.slice a 0 0::us).toArray w fun e w'=>∃cs',zbO w R S es' cs'/\zafA w w.heap.size es'.length cs' e w'):
    GF P f (.xsl []::xs.map .d) [] (.d (.sl es')) []:=by
 intro w R ι us hR hι hinj hob hv;obtain⟨hl,hg⟩:=hv
 cases us with
 | nil=>simp at hl
 | cons u0 us=>
  have hu0:=hg 0 _ u0 rfl rfl;have hnone:∀o b s,ι o=some (b,s)->False:=fun o b s h=>by have:=(hι o b s h).2.2;simp [look] at this
  cases hu0 with
  | @xsl _ a n h=>
   have hn:n=0:=by
    generalize hit:It.v (.sl []) (Value.slice a n n)=it at h
    cases h with
    | sl0=>injection hit with _ e;injection e
    | sl _ h0=>injection hit with e1 _;injection e1 with e1;exact absurd e1.symm h0
    | _=>cases hit
   subst hn;refine (H w R a us hR (by simpa using hl) (fun i x u hx hu=>(hg (i+1) (.d x) u (by simp [hx]) (by simpa using hu)).of_d)).mono fun e w'=> ?_;rintro⟨cs',hcs',b',cap',C',T',rfl,p2,p3,p4,p5,p6,p7,p8,p9,p10,p11⟩;have hb':=(zacl.1 p3).1;have hbe:b'=w.heap.size:=by rcases p5 with h|h<;>exact h
   subst hbe;have hK:zbK R w w':=fun k hk=>p7 k (hR k hk) (fun e=>by have:=hR k hk;omega);refine⟨_,ι,fun k=>R k\/k=w.heap.size,rfl,p9,p10,p11,p6,fun k hk=>Blk.of_eq (p7 k hk (by omega)),fun k hk hn=>p7 k hk (by omega),fun _ h=> .inl h,?_,fun _ _ _ h=>h,fun o k s' hk=>(hnone _ _ _ hk).elim,hinj,fun o ob hm=>(by simp at hm),.d ?_⟩
   ·rintro k (hk|rfl)
    ·exact⟨zaco (hR k hk) p6,.inl hk⟩
    ·exact⟨hb',.inr (.inl (zabR _))⟩
   ·by_cases hn:es'=[]
    ·subst hn;exact .sl0
    ·refine .sl (.inr rfl) hn hS hL p2 hz' fun i e hi=> ?_;refine Rd.el_of_cells (fun vs hvs=> ?_) fun j x hj=> ?_
     ·subst hvs;have:=(hcs'.2 i _ hi 0 (.tup vs) rfl).1;simp [D.cell] at this
     ·obtain⟨k1,q,k2,k3⟩:=hcs'.2 i e hi j x hj;exact⟨k1,q,by rw[zcq p3,zabU];exact p4 _ _ k2,k3.mono_v (fun _ h=> .inl h) hK⟩
theorem zanO{es:List D}:WF 0 (.d (.sl es)) []:=
 ⟨fun n hn=>by simp [look] at hn,fun i hi=>by omega,fun q hq=>by simp [AV.refs] at hq,fun n ob h=>by simp at h⟩
theorem zaiR{S:Nat}{v:D}{u:Value}(hS:0<S)(hv:v.size=S)(h:Rd w R (.v (.sl [v]) u)):∃(vb voff vc:Nat) (A:Array Value) (TA:TypeId) (f:Nat×Nat) (vs:List Value),u= .slice (some ⟨vb,voff,none⟩) 1 vc/\R vb/\w.heap[vb]? = some (.cells A TA f)/\zbO w R S [v] vs/\vs.length=S/\(∀(j:Nat) (x:Value),vs[j]? = some x->A[voff+j]? = some x)/\∀x∈vs,x.oneCell'=true:=by
 obtain⟨vb,voff,s,vc,rfl,hR,hs,_,_,hsz,hel⟩:=h.sl_inv (by simp);have hss:s=S:=by rw[<- hsz v (by simp)];exact hv
 subst hss;obtain⟨vs,h1,h2⟩:=zvk hs (by simpa using hv) hel;have hlen:vs.length=s:=by have:=h1.1;simpa using this
 have h0:=h2 0 (vs[0]'(by omega)) (by simp);have hA:∃A TA f,w.heap[vb]? = some (.cells A TA f):=by
  unfold World.cell? at h0
  split at h0
  ·rename_i c T f hc;exact⟨c,T,f,hc⟩
  ·cases h0
 obtain⟨A,TA,f,hA⟩:=hA;exact⟨vb,voff,vc,A,TA,f,vs,rfl,hR,hA,h1,hlen,fun j x hj=>by have:=h2 j x hj;rwa [zcq hA] at this,h1.one hs (by simpa using hv)⟩
theorem zalo {f:FuncId} {S:Nat} {TE:TypeId} {z:Value} (hcall:zeJ P f=true) (hS:0<S) (hzl:z.cells.size=S)
    (W1:∀(b n c i vb voff vc:Nat) (C A:Array Value) (T TA:TypeId) (f':Nat×Nat) (cs vs:List Value) (w:World),w.heap[b]? = some (.cells C T (0,0))->w.heap[vb]? = some (.cells A TA f')->vb≠b->
     i<n->n+1<=c->c * S<=C.size->n<=4294967296->cs.length=n * S->vs.length=S->(∀(j:Nat) (v:Value),cs[j]? = some v->C[j]? = some v)->(∀(j:Nat) (v:Value),vs[j]? = some v->A[voff+j]? = some v)->(∀v∈cs,v.oneCell'=true)->(∀v∈vs,v.oneCell'=true)->
     Calls P f #[.slice (some ⟨b,0,none⟩) n c,.int .i64 i,.slice (some ⟨vb,voff,none⟩) 1 vc] w fun e w'=>
      e= .returned (.slice (some ⟨b,0,none⟩) (n+1) c)/\w'=(w.drew.setCells b ((i+1) * S) (cs.drop (i * S))).setCells b (i * S) vs)
    (W2:∀(b n c vb voff vc:Nat) (C A:Array Value) (T TA:TypeId) (f':Nat×Nat) (vs:List Value) (w:World),w.heap[b]? = some (.cells C T (0,0))->w.heap[vb]? = some (.cells A TA f')->
     n+1<=c->c * S<=C.size->n<=4294967296->vs.length=S->(∀(j:Nat) (v:Value),vs[j]? = some v->A[voff+j]? = some v)->(∀v∈vs,v.oneCell'=true)->
     Calls P f #[.slice (some ⟨b,0,none⟩) n c,.int .i64 n,.slice (some ⟨vb,voff,none⟩) 1 vc] w fun e w'=>
      e= .returned (.slice (some ⟨b,0,none⟩) (n+1) c)/\w'=w.setCells b (n * S) vs)
    (W3:∀(base:Option Addr) (n c vb voff vc:Nat) (A:Array Value) (TA:TypeId) (f':Nat×Nat) (cs vs:List Value) (w:World),w.heap[vb]? = some (.cells A TA f')->
     n<=c->c<n+1->n<=4294967296->cs.length=n * S->vs.length=S->(base=none->n=0)->(∀a,base=some a->∀j v,cs[j]? = some v->w.cell? (a.add j)=some v)->
     (∀(j:Nat) (v:Value),vs[j]? = some v->A[voff+j]? = some v)->(∀v∈vs,v.oneCell'=true)->
     Calls P f #[.slice base n c,.int .i64 n,.slice (some ⟨vb,voff,none⟩) 1 vc] w fun e w'=>
      e= .returned (.slice (some ⟨w.heap.size,0,none⟩) (n+1) (grownCap w (n+1) c TE))/\
      w'=w.drew.alloc (.cells ((cs++vs).toArray++Builtin.zeroCells z.cells (grownCap w (n+1) c TE - (n+1))) TE))
    (W4:∀(b n c i vb voff vc:Nat) (C A:Array Value) (T TA:TypeId) (f':Nat×Nat) (cs vs:List Value) (w:World),w.heap[b]? = some (.cells C T (0,0))->w.heap[vb]? = some (.cells A TA f')->
     i<n->n<=c->c<n+1->c * S<=C.size->n<=4294967296->cs.length=n * S->vs.length=S->(∀(j:Nat) (v:Value),cs[j]? = some v->C[j]? = some v)->(∀(j:Nat) (v:Value),vs[j]? = some v->A[voff+j]? = some v)->(∀v∈cs,v.oneCell'=true)->(∀v∈vs,v.oneCell'=true)->
     Calls P f #[.slice (some ⟨b,0,none⟩) n c,.int .i64 i,.slice (some ⟨vb,voff,none⟩) 1 vc] w fun e w'=>
      e= .returned (.slice (some ⟨w.heap.size,0,none⟩) (n+1) (grownCap w (n+1) c TE))/\
      w'=(((w.alloc (.cells ((cs.take (i * S)).toArray++Builtin.zeroCells z.cells (n+1 - i)++Builtin.zeroCells z.cells (grownCap w (n+1) c TE - (n+1))) TE)).drew.setCells w.heap.size (i * S) vs).drew).setCells w.heap.size ((i+1) * S) (cs.drop (i * S))):
    zp P f (.ext (insF S)):=by
 intro args os r os' h _ _;refine⟨hcall,?_⟩
 rcases zalg h with ⟨ds,i,v,rfl,rfl,h0,hi,hz,hL,rfl,rfl⟩|⟨v,rfl,rfl,hz,rfl,rfl⟩
 ·have hzd:∀e∈ds,e.size=S:=fun e he=>hz e (.tail _ he);have hlen:(ds.take i++[v]++ds.drop i).length=ds.length+1:=by simp;omega
  refine⟨zald h0 hS hzd (fun e he=> ?_) (by rw[hlen];exact hL) fun w R b c C T cs us hR hb hRb hnc hcC hcs hcC' hl hv=> ?_,zanN⟩
  ·rw[zab9] at he
   rcases zabS.1 he with he|he
   ·exact hzd e (zac8 he)
   ·rcases zabS.1 he with he|he
    ·exact hz e (by simp at he;simp [he])
    ·exact hzd e (zadQ he)
  ·match us,hl,hv with
   | [u1,u2],_,hv=>
    have e1:u1= .int .i64 i:=by
     have:=hv 0 _ u1 rfl rfl
     cases this;rfl
    subst e1;obtain⟨vb,voff,vc,A,TA,f',vs,rfl,hRv,hA,hvs,hvl,hvA,hv1⟩:=zaiR hS (hz v (.head _)) (hv 1 _ u2 rfl rfl);have hvb:vb≠b:=fun e=>hRb (e ▸ hRv);have hcl:=hcs.1;have h1c:=hcs.one hS hzd;have hn:ds.length<=4294967296:=by unfold LIM at hL;omega
    have hcells:zbO w R S (ds.take i++[v]++ds.drop i) (cs.take (i * S)++vs++cs.drop (i * S)):=
     ((hcs.take hzd i).app hvs fun e he=>hzd e (zac8 he)).app (hcs.drop i) fun e he=>by
      rcases zabS.1 he with he|he
      ·exact hzd e (zac8 he)
      ·exact hz e (by simp at he;simp [he])
    rw[hlen];have hiS:i * S<=ds.length * S:=zab2 _ hi;have hsucc:(i+1) * S=i * S+S:=zacq _ _;have htl:(cs.take (i * S)).length=i * S:=by rw[zac9];omega
    have hget:∀(j:Nat) (x:Value),(cs.take (i * S)++vs++cs.drop (i * S))[j]? = some x->(if j<i * S then cs[j]? else if j<i * S+S then vs[j - i * S]? else cs[j - S]?)=some x:=fun j x hj=>by
     rw[<- hj]
     by_cases h1:j<i * S
     ·rw[zabo h1,zab9,zacN (by omega),zaed,zabo h1]
     ·rw[zabn h1,zab9,zacE (by omega),htl]
      by_cases h2:j<i * S+S
      ·rw[zabo h2,zacN (by omega)]
      ·rw[zabn h2,zacE (by omega),zado];congr 1;omega
    have hroomN:∀ {m:Nat},ds.length+1<=m->ds.length * S+S<=m * S:=fun h=>by rw[<- zacq];exact zab2 _ h
    by_cases hend:i=ds.length
    ·have ht:cs.take (i * S)=cs:=zada (by rw[hcl,hend];exact zabR _);have hdr:cs.drop (i * S)=[]:=zaef (by rw[hcl,hend];exact zabR _);rw[ht,hdr,zabL] at hcells;rw[hend];rw[hend] at hcells
     by_cases hroom:ds.length+1<=c
     ·refine (W2 b ds.length c vb voff vc C A T TA f' vs w hb hA hroom hcC hn hvl hvA hv1).mono fun e w'=> ?_;rintro⟨rfl,rfl⟩;refine⟨cs++vs,hcells,?_⟩;rw[<- hcl];exact zal4 hb hroom (by have:=hroomN hroom;omega) hcC'
     ·refine (W3 (some ⟨b,0,none⟩) ds.length c vb voff vc A TA f' cs vs w hA hnc (by omega) hn hcl hvl nofun (fun a ha j x hj=> ?_) hvA hv1).mono fun e w'=> ?_
      ·cases ha
       rw[Addr.add_lit,zcq hb,zabU];exact hcC' j x hj
      ·rintro⟨rfl,rfl⟩;exact⟨cs++vs,hcells,zaiS (grownCap_ge w _ _ _)⟩
    ·have hlt:i<ds.length:=by omega
     have hi1:(i+1) * S<=ds.length * S:=zab2 _ hlt
     by_cases hroom:ds.length+1<=c
     ·refine (W1 b ds.length c i vb voff vc C A T TA f' cs vs w hb hA hvb hlt hroom hcC hn hcl hvl hcC' hvA h1c hv1).mono fun e w'=> ?_;rintro⟨rfl,rfl⟩;have hbig:=hroomN hroom;refine⟨_,hcells,zal5 hb hroom (by rw[zadA];omega) (by omega) fun j x hj=> ?_⟩;have hj2:=hget j x hj;rw[zadA,hcl,hvl];have hjl:=(zabB.1 hj).1;simp only[zabv,htl,hvl,zadA,hcl] at hjl
      by_cases h1:j<i * S
      ·rw[zabo h1] at hj2;rw[zabn (by omega),zabn (by omega)];exact hcC' _ _ hj2
      ·rw[zabn h1] at hj2
       by_cases h2:j<i * S+S
       ·rw[zabo h2] at hj2;rw[zabo (by omega)];exact hj2
       ·rw[zabn h2] at hj2;rw[zabn (by omega),zabo (by omega),zado, <- hj2];congr 1;omega
     ·refine (W4 b ds.length c i vb voff vc C A T TA f' cs vs w hb hA hlt hnc (by omega) hcC hn hcl hvl hcC' hvA h1c hv1).mono fun e w'=> ?_;rintro⟨rfl,rfl⟩;have hzc:∀k,(Builtin.zeroCells z.cells k).size=k * S:=fun k=>by simp [Builtin.zeroCells,hzl]
      have hge:=grownCap_ge w (ds.length+1) c TE;have hrow:ds.length * S+S<=((cs.take (i * S)).toArray++Builtin.zeroCells z.cells (ds.length+1 - i)++Builtin.zeroCells z.cells (grownCap w (ds.length+1) c TE - (ds.length+1))).size:=by
       rw[Array.size_append,Array.size_append,hzc,hzc,List.size_toArray,htl];have:i * S+(ds.length+1 - i) * S=(ds.length+1) * S:=by rw[<- zach];congr 1;omega
       rw[zacq] at this;omega
      refine⟨_,hcells,zal3 hge (by omega) (by rw[zadA];omega) fun j x hj=> ?_⟩;have hj2:=hget j x hj;rw[zadA,hcl,hvl];have hjl:=(zabB.1 hj).1;simp only[zabv,htl,hvl,zadA,hcl] at hjl
      by_cases h1:j<i * S
      ·rw[zabo h1] at hj2;rw[zabn (by omega),zabn (by omega),Array.append_assoc,zad5 (by rw[List.size_toArray];omega),zadI,zaed,zabo h1];exact hj2
      ·rw[zabn h1] at hj2
       by_cases h2:j<i * S+S
       ·rw[zabo h2] at hj2;rw[zabn (by omega),zabo (by omega)];exact hj2
       ·rw[zabn h2] at hj2;rw[zabo (by omega),zado, <- hj2];congr 1;omega
 ·refine⟨zalc (xs:=[.int .i64 0,.sl [v]]) hS (by simpa using hz) (by simp [LIM]) fun w R a us hR hl hv=> ?_,zanO⟩
  match us,hl,hv with
  | [u1,u2],_,hv=>
   have e1:u1= .int .i64 0:=by
    have:=hv 0 _ u1 rfl rfl
    cases this;rfl
   subst e1;obtain⟨vb,voff,vc,A,TA,f',vs,rfl,hRv,hA,hvs,hvl,hvA,hv1⟩:=zaiR hS hz (hv 1 _ u2 rfl rfl);refine (W3 a 0 0 vb voff vc A TA f' [] vs w hA (zabR _) (by omega) (by omega) (by simp) hvl (fun _=>rfl) (fun _ _ j x hj=>by simp at hj) hvA hv1).mono fun e w'=> ?_;rintro⟨rfl,rfl⟩;exact⟨[]++vs,hvs,zaiS (grownCap_ge w _ _ _)⟩
end Go.Sim

namespace Go.Proofs.YtcembpbhkcbnhaaGreat
open Go.RowKit Go.Lib Go.Sim
set_option maxHeartbeats 4000000 in
set_option maxRecDepth 100000 in
theorem zall (b n c i vb voff vc:Nat) (C A:Array Value) (T TA:TypeId) (f:Nat×Nat) (cs vs:List Value) (w:Go.World) (hb:w.heap[b]? = some (.cells C T (0,0))) (hA:w.heap[vb]? = some (.cells A TA f)) (hvb:vb≠b)
    (hi:i<n) (hroom:n+1<=c) (hcC:c * 6<=C.size) (hn:n<=4294967296) (hcl:cs.length=n * 6) (hvl:vs.length=6)
    (hcs:∀(j:Nat) (v:Value),cs[j]? = some v->C[j]? = some v) (hvs:∀(j:Nat) (v:Value),vs[j]? = some v->A[voff+j]? = some v) (h1c:∀v∈cs,v.oneCell'=true) (h1v:∀v∈vs,v.oneCell'=true):
    Calls Tryz.prog 98 #[.slice (some ⟨b,0,none⟩) n c,.int .i64 i,.slice (some ⟨vb,voff,none⟩) 1 vc] w fun e w'=>
     e= .returned (.slice (some ⟨b,0,none⟩) (n+1) c)/\w'=(w.drew.setCells b ((i+1) * 6) (cs.drop (i * 6))).setCells b (i * 6) vs:=by
 have uS:=run_underlying Tryz.underlying30;have hsz:(Tryz.prog.info? 71).map (·.size)=some 6:=by kernel_rfl
 have hzE:∀w,(Go.sizeOf 71).run Tryz.prog w= .ok 6 w:=fun w=>by kernel_rfl
 have hlt:=(zacl.1 hA).1;have hC0:C.size≠0:=by omega
 have hA0:A.size≠0:=by
  have:=hvs 0 (vs[0]'(by omega)) (by simp);have:=(zacl.1 this).1;omega
 have hov:∀lb cb,(callFunc 131 #[.slice (some ⟨vb,voff,none⟩) 1 vc,.slice (some ⟨b,(i+1) * 6,none⟩) lb cb]).run Tryz.prog w= .ok (.value (.bool false)) w:=fun lb cb=>by
  rw[run_callFunc_extern Tryz.func131 (by kernel_rfl) (by kernel_rfl) (by kernel_rfl) (e:=Extern.SlicesOverlaps.overlaps #[30,30] #[4]) (by kernel_rfl),
   zalX w 30 4 71 Tryz.underlying30 6 hzE ⟨vb,voff,none⟩ ⟨b,(i+1) * 6,none⟩ 1 vc lb cb hvb hA hb hC0 hA0]
  rfl
 have hdl:(cs.drop (i * 6)).length=(n - i) * 6:=by rw[zadA,hcl];omega
 have hw1:IntKind.i64.wrap ((i:Int)+1)=(i:Int)+1:=by rw[IntKind.wrap_i64];omega
 have hw2:IntKind.i64.wrap ((n:Int)+1)=(n:Int)+1:=by rw[IntKind.wrap_i64];omega
 have hcell:∀(j:Nat),w.drew.cell? ⟨b,j,none⟩=C[j]? := fun j=>by show w.cell? _=_;rw[zcq hb]
 have hfz:∀(j:Nat),w.drew.frozen? ⟨b,j,none⟩=false:=fun j=>by show w.frozen? _=_;simp [Go.World.frozen?,hb]
 have hcp1:∀ty dc sc,(Builtin.copy_ #[30,30] ty #[.slice (some ⟨b,(i+1) * 6,none⟩) (n - i) dc,.slice (some ⟨b,i * 6,none⟩) (n+1 - i) sc]).run Tryz.prog w.drew= .ok (goInt (Nat.min (n+1 - i) (n - i))) (w.drew.setCells b ((i+1) * 6) (cs.drop (i * 6))):=fun ty dc sc=>
  zagg w.drew _ _ ty 71 6 b ((i+1) * 6) (n - i) dc ⟨b,i * 6,none⟩ (n+1 - i) sc (cs.drop (i * 6)) Tryz.underlying30 hsz (by rw[hdl];simp only[Nat.min_def];split<;>omega)
   (fun j v hj=>by rw[Addr.add_lit,hcell];exact hcs _ v (by rwa [zado] at hj))
   (fun j hj=>by rw[hcell,zad6 zo];rfl) (fun j hj=>hfz _) (fun v hv=>h1c v (zadQ hv))
 obtain⟨W1,hW1⟩:∃W1,W1=w.drew.setCells b ((i+1) * 6) (cs.drop (i * 6)):=⟨_,rfl⟩;have hsp1:∀k,k<(n+1) * 6->(W1.cell? ⟨b,k,none⟩).isSome=true:=fun k hk=>by
  rw[hW1];exact zai6 b _ _ _ (fun j hj=>by rw[hcell,zad6 zo];rfl) _ (by rw[hcell,zad6 zo];rfl)
 have hcp2:∀(W:Go.World),(∀x,W.cell? x=W1.cell? x)->(∀x,W.frozen? x=W1.frozen? x)->∀ty dc,(Builtin.copy_ #[30,30] ty #[.slice (some ⟨b,i * 6,none⟩) (n+1 - i) dc,.slice (some ⟨vb,voff,none⟩) 1 vc]).run Tryz.prog W= .ok (goInt (Nat.min 1 (n+1 - i))) (W.setCells b (i * 6) vs):=fun W hWc hWf ty dc=>
  zagg W _ _ ty 71 6 b (i * 6) (n+1 - i) dc ⟨vb,voff,none⟩ 1 vc vs Tryz.underlying30 hsz (by rw[hvl];simp only[Nat.min_def];split<;>omega)
   (fun j v hj=>by
    rw[Addr.add_lit,hWc,hW1,Go.World.cell?_setCells_out b _ _ _ _ (fun h _=>absurd h hvb)];show w.cell? _=_;rw[zcq hA];exact hvs j v hj)
   (fun j hj=>by rw[hWc];exact hsp1 _ zo) (fun j hj=>by rw[hWf,hW1,Go.World.frozen?_setCells];exact hfz _) h1v
 rw[<- hW1] at hcp1;have hz2:¬((i:Int)=(n:Int)):=by omega
 have hb1:(0:Int)<=(i:Int)+1:=by omega
 have hin:i<=n:=by omega
 have htn:((i:Int)+1).toNat=i+1:=by omega
 have hb2:¬(c=i+1):=by omega
 have hb3:(i:Int)<=(n:Int)+1:=by omega
 have hb4:¬(c=i):=by omega
 clear hcs hvs h1c h1v hcell hfz hsp1 hA hb;have mixed:Tryz.prog.follows .mixedOrders=true:=by kernel_rfl
 go_enter Tryz.func98,Tryz.ntmps98
 go_wp2_with (simp only[hov])
 go_region_law_o (refine zaja rfl _ _ 30 30 rfl _ _ (by simp [Act.eval,Act.put]) (by simp [Act.eval,Act.put]) (hcp1 _ _ _) ?_)
 go_wp2_with (at_builtin;refine zagZ _ rfl _ _ 30 30 rfl _ _ rfl rfl (hcp2 _ (fun _=>rfl) (fun _=>rfl) _ _) ?_)
 go_ret
 first|exact⟨rfl,rfl⟩|exact⟨rfl,by rw[hW1]⟩
theorem zagQ:(Tryz.prog.info? 71).map (fun i=>(i.zero,i.size,i.bytes))=some (some (.agg #[.int .i64 0,.int .i64 0,.int .i64 0,.int .i64 0,.int .i64 0,.int .i64 0]),6,48):=by kernel_rfl
set_option maxHeartbeats 4000000 in
set_option maxRecDepth 100000 in
theorem zalk (b n c vb voff vc:Nat) (C A:Array Value) (T TA:TypeId) (f:Nat×Nat) (vs:List Value) (w:Go.World) (hb:w.heap[b]? = some (.cells C T (0,0))) (hA:w.heap[vb]? = some (.cells A TA f))
    (hroom:n+1<=c) (hcC:c * 6<=C.size) (hn:n<=4294967296) (hvl:vs.length=6)
    (hvs:∀(j:Nat) (v:Value),vs[j]? = some v->A[voff+j]? = some v) (h1v:∀v∈vs,v.oneCell'=true):
    Calls Tryz.prog 98 #[.slice (some ⟨b,0,none⟩) n c,.int .i64 n,.slice (some ⟨vb,voff,none⟩) 1 vc] w fun e w'=>
     e= .returned (.slice (some ⟨b,0,none⟩) (n+1) c)/\w'=w.setCells b (n * 6) vs:=by
 have uS:=run_underlying Tryz.underlying30;obtain⟨i0,hi0,hz0,hzs,hzb⟩:=info_parts zagQ;have hsrc:Src Tryz.prog i0.size 30 (.slice (some ⟨vb,voff,none⟩) 1 vc) 1 vs w:=by
  rw[hzs];exact Src.ofSlice w Tryz.underlying30 ⟨vb,voff,none⟩ 1 vc vs zo (fun j u hj=>by rw[Addr.add_lit,zcq hA];exact hvs j u hj) h1v
 have hrun:∀ty,(Builtin.append_ #[30,30] ty #[.slice (some ⟨b,0,none⟩) n c,.slice (some ⟨vb,voff,none⟩) 1 vc]).run Tryz.prog w=_:=fun ty=>
  run_append_room_src w 30 30 ty 71 i0 Tryz.underlying30 hi0 b 0 n c _ 1 vs hsrc hroom (fun j hj=>by rw[zcq hb,zad6 (by rw[hzs];omega)];rfl) (fun j hj=>by simp [Go.World.frozen?,hb])
 rw[hzs] at hrun;have mixed:Tryz.prog.follows .mixedOrders=true:=by kernel_rfl
 clear hsrc hvs h1v hb hA hi0 hz0 hzs hzb
 go_enter Tryz.func98,Tryz.ntmps98
 go_wp2_with (at_builtin;refine Lib.wpList_append_run _ rfl _ _ _ _ rfl _ _ rfl rfl _ _ (hrun _) ?_)
 go_ret
 exact⟨rfl,rfl⟩
set_option maxHeartbeats 4000000 in
set_option maxRecDepth 100000 in
theorem zalj (base:Option Addr) (n c vb voff vc:Nat) (A:Array Value) (TA:TypeId) (f:Nat×Nat) (cs vs:List Value) (w:Go.World) (hA:w.heap[vb]? = some (.cells A TA f))
    (hnc:n<=c) (hroom:c<n+1) (hn:n<=4294967296) (hcl:cs.length=n * 6) (hvl:vs.length=6) (hnil:base=none->n=0)
    (hcs:∀a,base=some a->∀j v,cs[j]? = some v->w.cell? (a.add j)=some v)
    (hvs:∀(j:Nat) (v:Value),vs[j]? = some v->A[voff+j]? = some v) (h1v:∀v∈vs,v.oneCell'=true):
    Calls Tryz.prog 98 #[.slice base n c,.int .i64 n,.slice (some ⟨vb,voff,none⟩) 1 vc] w fun e w'=>
     e= .returned (.slice (some ⟨w.heap.size,0,none⟩) (n+1) (grownCap w (n+1) c 71))/\
     w'=w.drew.alloc (.cells ((cs++vs).toArray++Builtin.zeroCells ((.agg #[.int .i64 0,.int .i64 0,.int .i64 0,.int .i64 0,.int .i64 0,.int .i64 0]):Value).cells (grownCap w (n+1) c 71 - (n+1))) 71):=by
 have uS:=run_underlying Tryz.underlying30;obtain⟨i0,hi0,hz0,hzs,hzb⟩:=info_parts zagQ;have hsrc:Src Tryz.prog i0.size 30 (.slice (some ⟨vb,voff,none⟩) 1 vc) 1 vs w:=by
  rw[hzs];exact Src.ofSlice w Tryz.underlying30 ⟨vb,voff,none⟩ 1 vc vs zo (fun j u hj=>by rw[Addr.add_lit,zcq hA];exact hvs j u hj) h1v
 have hold:(Builtin.firstCells i0.size n (.slice base n c)).run Tryz.prog w.drew= .ok cs.toArray w.drew:=by
  rw[hzs]
  cases base with
  | none=>
   have h0:=hnil rfl;subst h0;rw[zacc.1 (by omega:cs.length=0)];exact run_firstCells_none w.drew 6 0 0 c
  | some a=>exact run_firstCells_some w.drew 6 n a n c cs zo (fun j v hj=>hcs a rfl j v hj)
 have hrun:∀ty,(Builtin.append_ #[30,30] ty #[.slice base n c,.slice (some ⟨vb,voff,none⟩) 1 vc]).run Tryz.prog w=_:=fun ty=>
  run_append_grow_src w 30 30 ty 71 i0 _ Tryz.underlying30 hi0 hz0 base n c cs hold _ 1 vs hsrc hroom zo (by rw[hzb];exact growslice_fits hroom zo)
 have mixed:Tryz.prog.follows .mixedOrders=true:=by kernel_rfl
 clear hsrc hvs h1v hcs hold hA hi0 hz0 hzs hzb
 go_enter Tryz.func98,Tryz.ntmps98
 cases base with
 | none=>
  have h0:=hnil rfl;subst h0
  go_wp2_with (at_builtin;refine Lib.wpList_append_run _ rfl _ _ _ _ rfl _ _ rfl rfl _ _ (hrun _) ?_)
  go_ret
  exact⟨rfl,rfl⟩
 | some a=>
  obtain⟨ab,ao,asp⟩:=a
  go_wp2_with (at_builtin;refine Lib.wpList_append_run _ rfl _ _ _ _ rfl _ _ rfl rfl _ _ (hrun _) ?_)
  all_goals (go_ret;exact⟨rfl,rfl⟩)
set_option maxHeartbeats 4000000 in
set_option maxRecDepth 100000 in
theorem zali (b n c i vb voff vc:Nat) (C A:Array Value) (T TA:TypeId) (f:Nat×Nat) (cs vs:List Value) (w:Go.World) (hb:w.heap[b]? = some (.cells C T (0,0))) (hA:w.heap[vb]? = some (.cells A TA f))
    (hi:i<n) (hnc:n<=c) (hroom:c<n+1) (hcC:c * 6<=C.size) (hn:n<=4294967296) (hcl:cs.length=n * 6) (hvl:vs.length=6)
    (hcs:∀(j:Nat) (v:Value),cs[j]? = some v->C[j]? = some v) (hvs:∀(j:Nat) (v:Value),vs[j]? = some v->A[voff+j]? = some v) (h1c:∀v∈cs,v.oneCell'=true) (h1v:∀v∈vs,v.oneCell'=true):
    Calls Tryz.prog 98 #[.slice (some ⟨b,0,none⟩) n c,.int .i64 i,.slice (some ⟨vb,voff,none⟩) 1 vc] w fun e w'=>
     e= .returned (.slice (some ⟨w.heap.size,0,none⟩) (n+1) (grownCap w (n+1) c 71))/\
     w'=(((w.alloc (.cells ((cs.take (i * 6)).toArray++Builtin.zeroCells ((.agg #[.int .i64 0,.int .i64 0,.int .i64 0,.int .i64 0,.int .i64 0,.int .i64 0]):Value).cells (n+1 - i)++Builtin.zeroCells ((.agg #[.int .i64 0,.int .i64 0,.int .i64 0,.int .i64 0,.int .i64 0,.int .i64 0]):Value).cells (grownCap w (n+1) c 71 - (n+1))) 71)).drew.setCells w.heap.size (i * 6) vs).drew).setCells w.heap.size ((i+1) * 6) (cs.drop (i * 6)):=by
 have uS:=run_underlying Tryz.underlying30;have uI:=run_underlying Tryz.underlying3;obtain⟨i0,hi0,hz0,hzs,hzb⟩:=info_parts zagQ;have hsz:(Tryz.prog.info? 71).map (·.size)=some 6:=by kernel_rfl
 have hbw:=(zacl.1 hb).1;have hvw:=(zacl.1 hA).1;have hkk:(n:Int)+1 - (i:Int)=((n+1 - i:Nat):Int):=by omega
 have hik:i+(n+1 - i)=n+1:=by omega
 have hold:(Builtin.firstCells i0.size i (.slice (some ⟨b,0,none⟩) i c)).run Tryz.prog w.drew= .ok (cs.take (i * 6)).toArray w.drew:=by
  rw[hzs];exact run_firstCells_some w.drew 6 i ⟨b,0,none⟩ i c (cs.take (i * 6)) (by rw[zac9];omega) (fun j v hj=>by
   rw[Addr.add_lit];show w.cell? _=_;rw[zcq hb,zabU];rw[zaed] at hj
   split at hj
   ·exact hcs j v hj
   ·cases hj)
 have hrz:∀ty,(Builtin.append_ #[30,3] ty #[.slice (some ⟨b,0,none⟩) i c,.int .i64 ((n:Int)+1 - (i:Int))]).run Tryz.prog w=
     .ok (.slice (some ⟨w.heap.size,0,none⟩) (n+1) (grownCap w (n+1) c 71)) (w.drew.alloc (.cells ((cs.take (i * 6)).toArray++Builtin.zeroCells ((.agg #[.int .i64 0,.int .i64 0,.int .i64 0,.int .i64 0,.int .i64 0,.int .i64 0]):Value).cells (n+1 - i)++Builtin.zeroCells ((.agg #[.int .i64 0,.int .i64 0,.int .i64 0,.int .i64 0,.int .i64 0,.int .i64 0]):Value).cells (grownCap w (n+1) c 71 - (n+1))) 71)):=fun ty=>by
  have h:=Lib.run_append_grow_zeros w 30 3 ty 71 i0 _ .i64 .i64 Tryz.underlying30 Tryz.underlying3 hi0 hz0 (some ⟨b,0,none⟩) i c (cs.take (i * 6)) hold (n+1 - i) zo zo zo zo (by rw[hzb];omega) (by rw[hzb,hik];exact growslice_fits hroom zo);rw[hik] at h;rw[hkk];exact h
 obtain⟨G,hG⟩:∃G,G=grownCap w (n+1) c 71:=⟨_,rfl⟩;obtain⟨ROW,hROW⟩:∃ROW:Array Value,ROW=(cs.take (i * 6)).toArray++Builtin.zeroCells ((.agg #[.int .i64 0,.int .i64 0,.int .i64 0,.int .i64 0,.int .i64 0,.int .i64 0]):Value).cells (n+1 - i)++Builtin.zeroCells ((.agg #[.int .i64 0,.int .i64 0,.int .i64 0,.int .i64 0,.int .i64 0,.int .i64 0]):Value).cells (G - (n+1)):=⟨_,rfl⟩;rw[<- hG] at hrz ⊢;rw[<- hROW] at hrz ⊢;have hRl:(n+1) * 6<=ROW.size:=by
  rw[hROW];simp [Builtin.zeroCells,Value.cells];omega
 obtain⟨W1,hW1⟩:∃W1,W1=w.drew.alloc (.cells ROW 71):=⟨_,rfl⟩;rw[<- hW1] at hrz;have hN:∀j,j<(n+1) * 6->(W1.cell? ⟨w.heap.size,j,none⟩).isSome=true:=fun j hj=>by
  rw[hW1,Go.World.cell?_alloc_at (w:=w.drew) ROW _ w.heap.size j rfl,zad6 zo];rfl
 have hNf:∀j,W1.frozen? ⟨w.heap.size,j,none⟩=false:=fun j=>by rw[hW1];exact Go.World.frozen?_alloc_at (w:=w.drew) ROW _ w.heap.size j rfl
 have hOb:∀j v,C[j]? = some v->W1.cell? ⟨b,j,none⟩=some v:=fun j v h=>by rw[hW1,Go.World.cell?_alloc_past (w:=w.drew) _ b j hbw];show w.cell? _=_;rw[zcq hb];exact h
 have hOv:∀j v,A[j]? = some v->W1.cell? ⟨vb,j,none⟩=some v:=fun j v h=>by rw[hW1,Go.World.cell?_alloc_past (w:=w.drew) _ vb j hvw];show w.cell? _=_;rw[zcq hA];exact h
 have hcpA:∀(W:Go.World),(∀x,W.cell? x=W1.cell? x)->(∀x,W.frozen? x=W1.frozen? x)->∀ty dc,(Builtin.copy_ #[30,30] ty #[.slice (some ⟨w.heap.size,i * 6,none⟩) (n+1 - i) dc,.slice (some ⟨vb,voff,none⟩) 1 vc]).run Tryz.prog W= .ok (goInt (Nat.min 1 (n+1 - i))) (W.setCells w.heap.size (i * 6) vs):=fun W hWc hWf ty dc=>
  zagg W _ _ ty 71 6 w.heap.size (i * 6) (n+1 - i) dc ⟨vb,voff,none⟩ 1 vc vs Tryz.underlying30 hsz (by rw[hvl];simp only[Nat.min_def];split<;>omega)
   (fun j v hj=>by rw[Addr.add_lit,hWc];exact hOv _ v (hvs j v hj))
   (fun j hj=>by rw[hWc];exact hN _ zo) (fun j hj=>by rw[hWf];exact hNf _) h1v
 have hGn:n+1<=G:=by rw[hG];exact grownCap_ge w _ _ _
 have hG63:G<=9223372036854775807:=by
  have:=grownCap_le_maxLen w (n+1) c 71 (by unfold maxLen;omega);rw[<- hG] at this;unfold maxLen at this;omega
 have hGi:¬(G=i):=by omega
 have hGim:¬(G=i+1):=by omega
 have hci:¬(c=i):=by omega
 have hbN:b≠w.heap.size:=by omega
 have hdl:(cs.drop (i * 6)).length=(n - i) * 6:=by rw[zadA,hcl];omega
 have hcpB:∀(W:Go.World),(∀x,W.cell? x=(W1.setCells w.heap.size (i * 6) vs).cell? x)->(∀x,W.frozen? x=(W1.setCells w.heap.size (i * 6) vs).frozen? x)->∀ty dc sc,(Builtin.copy_ #[30,30] ty #[.slice (some ⟨w.heap.size,(i+1) * 6,none⟩) (n - i) dc,.slice (some ⟨b,i * 6,none⟩) (n - i) sc]).run Tryz.prog W= .ok (goInt (Nat.min (n - i) (n - i))) (W.setCells w.heap.size ((i+1) * 6) (cs.drop (i * 6))):=fun W hWc hWf ty dc sc=>
  zagg W _ _ ty 71 6 w.heap.size ((i+1) * 6) (n - i) dc ⟨b,i * 6,none⟩ (n - i) sc (cs.drop (i * 6)) Tryz.underlying30 hsz (by rw[hdl];simp only[Nat.min_def];split<;>omega)
   (fun j v hj=>by
    rw[Addr.add_lit,hWc,Go.World.cell?_setCells_out _ _ _ _ _ (fun h _=>absurd h hbN)];exact hOb _ v (hcs _ v (by rwa [zado] at hj)))
   (fun j hj=>by rw[hWc];exact zai6 _ _ _ _ (fun t ht=>hN _ zo) _ (hN _ zo))
   (fun j hj=>by rw[hWf,Go.World.frozen?_setCells];exact hNf _) (fun v hv=>h1c v (zadQ hv))
 subst hW1;have hE1:∀x,((w.alloc (.cells ROW 71)).drew).cell? x=(w.drew.alloc (.cells ROW 71)).cell? x:=fun x=>rfl;have hE2:∀x,((w.alloc (.cells ROW 71)).drew).frozen? x=(w.drew.alloc (.cells ROW 71)).frozen? x:=fun x=>rfl;have hF1:∀x,(((w.alloc (.cells ROW 71)).drew.setCells w.heap.size (i * 6) vs).drew).cell? x=((w.drew.alloc (.cells ROW 71)).setCells w.heap.size (i * 6) vs).cell? x:=fun x=>rfl;have hF2:∀x,(((w.alloc (.cells ROW 71)).drew.setCells w.heap.size (i * 6) vs).drew).frozen? x=((w.drew.alloc (.cells ROW 71)).setCells w.heap.size (i * 6) vs).frozen? x:=fun x=>rfl;have hw1:IntKind.i64.wrap ((i:Int)+1)=(i:Int)+1:=by rw[IntKind.wrap_i64];omega
 have hw2:IntKind.i64.wrap ((n:Int)+1)=(n:Int)+1:=by rw[IntKind.wrap_i64];omega
 have hw3:IntKind.i64.wrap ((n:Int)+1 - i)=(n:Int)+1 - i:=by rw[IntKind.wrap_i64];omega
 have hz2:¬((i:Int)=(n:Int)):=by omega
 have hz3:(c:Int)<(n:Int)+1:=by omega
 have hb1:(0:Int)<=(i:Int)+1:=by omega
 have hin:i<=n:=by omega
 have htn:((i:Int)+1).toNat=i+1:=by omega
 have hb3:(i:Int)<=(n:Int):=by omega
 have mixed:Tryz.prog.follows .mixedOrders=true:=by kernel_rfl
 clear hkk hik hold hROW hG hRl hcs hvs h1c h1v hOb hOv hN hNf hA hb hi0 hz0 hzs hzb hsz
 go_enter Tryz.func98,Tryz.ntmps98
 go_wp2_with (first
  | (at_builtin;refine Lib.wpList_append_run _ rfl _ _ _ _ rfl _ _ rfl rfl _ _ (hrz _) ?_)
  | (at_builtin;refine zagZ _ rfl _ _ 30 30 rfl _ _ rfl rfl (hcpA _ hE1 hE2 _ _) ?_)
  | (at_builtin;refine zagZ _ rfl _ _ 30 30 rfl _ _ rfl rfl (hcpB _ (fun _=>rfl) (fun _=>rfl) _ _ _) ?_))
 go_region_law_o (refine zaja rfl _ _ 30 30 rfl (.slice (some ⟨w.heap.size,(i+1) * 6,none⟩) (n - i) (G - (i+1))) (.slice (some ⟨b,i * 6,none⟩) (n - i) (c - i)) (by simp [Act.eval,Act.put]) (by simp [Act.eval,Act.put]) (hcpB _ hF1 hF2 3 (G - (i+1)) (c - i)) ?_)
 go_wp2
 go_ret
 exact⟨rfl,rfl⟩
theorem zalW:zp Tryz.prog 98 (.ext (insF 6)):=zalo (z:=(.agg #[.int .i64 0,.int .i64 0,.int .i64 0,.int .i64 0,.int .i64 0,.int .i64 0])) (TE:=71) (by kernel_rfl) (by decide) rfl zall zalk zalj zali
end Go.Proofs.YtcembpbhkcbnhaaGreat
