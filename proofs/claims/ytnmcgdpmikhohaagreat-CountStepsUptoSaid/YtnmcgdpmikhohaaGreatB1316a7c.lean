/-
  New variables, parts of slices, appends.
-/
import Derived.Test.YtnmcgdpmikhohaaGreatBc8303cb
import Derived.Deep.MidRow
import Derived.Deep.AppendSrc
import Derived.Lib.Strings
set_option linter.unusedSimpArgs false
set_option linter.unusedVariables false
set_option maxHeartbeats 10000000
set_option maxRecDepth 100000
namespace Go.Sim
open Go (World Value Addr TypeId)
theorem zZg{α:Type}{k:Nat}{x:α}{l:List (Nat×α)}(h:(k,x)∈l):∃y,look k l=some y:=by
 induction l with
 | nil=>cases h
 | cons p l ih=>
  obtain⟨j,y⟩:=p;simp only[look]
  by_cases e:j=k
  ·rw[zabo e];exact⟨_,rfl⟩
  ·rw[zabn e]
   cases h with
   | head=>exact absurd rfl e
   | tail _ h=>exact ih h
variable {C:Ctx} {S:St} {a:Act} {w:World} {ι:Inj} {R:Nat->Prop}
theorem Rel.put(h:Rel C S a w ι R){x:AV}{u:Value}(hv:VA w R ι (mark S.heap) x u){d:Nat}(hd:d<C.n):
    Rel C ⟨zP d x S.env,S.heap⟩ (a.put (some d) u) w ι R:=by
 refine⟨h.defers,by simp [Act.put,h.size],h.os,h.tape,h.output,h.grow,h.len,h.keep,h.keepLt,h.rlt,h.rok,h.r0,h.own,h.inj,?_,h.heap⟩;intro t y hy;simp only[zP] at hy
 cases hy with
 | head=>
  refine⟨u,?_,hv⟩;have:=C.le;simp only[zeu,Act.put];rw[zabo (by omega),zad9 (by rw[h.size];exact hd)]
 | tail _ hy=>
  obtain⟨h1,h2⟩:=zi1.1 hy;obtain⟨u',h3,h4⟩:=h.env t y h1;refine⟨u',?_,h4⟩;simp only[zeu,Act.put] at h3 ⊢;rw[zaea (Ne.symm h2)];exact h3
theorem Rel.put_none(h:Rel C S a w ι R)(u:Value):Rel C S (a.put none u) w ι R:=h
theorem Rel.weaken(h:Rel C S a w ι R){E:Env}(hE:∀t x,(t,x)∈E->(t,x)∈S.env):Rel C ⟨E,S.heap⟩ a w ι R:=
 ⟨h.defers,h.size,h.os,h.tape,h.output,h.grow,h.len,h.keep,h.keepLt,h.rlt,h.rok,h.r0,h.own,h.inj,fun t x hx=>h.env t x (hE t x hx),h.heap⟩
theorem Rel.tmp(h:Rel C S a w ι R){t:Nat}{x:AV}(ht:t<1000000)(hx:look t S.env=some x):VA w R ι (mark S.heap) x (a.eval (.tmp t)):=by
 obtain⟨u,h1,h2⟩:=h.env t x (zav hx);simp only[zeu,zabo ht] at h1;simp only[Act.eval,zacZ,h1,zacS];exact h2
theorem zq7{v:Value}{x:AV}(h:zhu v=some x)(w:World)(R:Nat->Prop)(ι:Inj)(mk:Nat->Option Nat):VA w R ι mk x v/\x.cell=true:=by
 unfold zhu at h
 split at h
 ·split at h
  ·rename_i hk;cases h;exact⟨.d (.int hk),rfl⟩
  ·cases h
 ·cases h;exact⟨.d .bool,rfl⟩
 ·split at h
  ·rename_i s hs
   cases h
   refine⟨.d ?_,rfl⟩;have:=Rd.str (w:=w) (R:=R) hs;have e:(⟨s.data.toList.toArray⟩:ByteArray)=s:=by cases s;simp
   rwa [e] at this
  ·cases h
 ·cases h;exact⟨.xsl .sl0,rfl⟩
 ·cases h
theorem ziu{cs:List AV}{ds:List D}(h:zbq cs=some ds):cs=ds.map .d:=by
 induction cs generalizing ds with
 | nil=>simp [zbq] at h;subst h;rfl
 | cons x l ih=>
  cases x with
  | d y=>
   simp only[zbq,zabr] at h;obtain⟨ds',h1,h2⟩:=h;subst h2;rw[ih h1];rfl
  | _=>simp [zbq] at h
theorem VA.of_d{mk:Nat->Option Nat}{x:D}{u:Value}(h:VA w R ι mk (.d x) u):Rd w R (.v x u):=by cases h;assumption
theorem VA.mkAgg {mk:Nat->Option Nat} {cs:List AV} {vs:List Value} (hl:vs.length=cs.length) (hc:∀c∈cs,c.cell=true)
    (h:∀(i:Nat) (c:AV) (u:Value),cs[i]? = some c->vs[i]? = some u->VA w R ι mk c u):VA w R ι mk (AV.mkAgg cs) (.agg vs.toArray):=by
 unfold AV.mkAgg
 cases hd:zbq cs with
 | none=>exact .agg hl hc h
 | some ds=>
  have:=ziu hd;subst this;refine .d (.agg (by simpa using hl) (fun c hm=> ?_) fun i c u h1 h2=>(h i (.d c) u (by simp [h1]) h2).of_d);exact hc (.d c) (by simpa using hm)
theorem VA.mkTup {mk:Nat->Option Nat} {cs:List AV} {vs:List Value} (hl:vs.length=cs.length)
    (h:∀(i:Nat) (c:AV) (u:Value),cs[i]? = some c->vs[i]? = some u->VA w R ι mk c u):VA w R ι mk (AV.mkTup cs) (.tuple vs.toArray):=by
 unfold AV.mkTup
 cases hd:zbq cs with
 | none=>exact .tup hl h
 | some ds=>
  have:=ziu hd;subst this;exact .d (.tup (by simpa using hl) fun i c u h1 h2=>(h i (.d c) u (by simp [h1]) h2).of_d)
theorem VA.mkFn {mk:Nat->Option Nat} {f:FuncId} {cs:List AV} {vs:List Value} (hl:vs.length=cs.length)
    (h:∀(i:Nat) (c:AV) (u:Value),cs[i]? = some c->vs[i]? = some u->VA w R ι mk c u):VA w R ι mk (AV.mkFn f cs) (.func (.func f) #[] vs.toArray):=by
 unfold AV.mkFn
 cases hd:zbq cs with
 | none=>exact .fn hl h
 | some ds=>
  have:=ziu hd;subst this;exact .d (.fn (by simpa using hl) fun i c u h1 h2=>(h i (.d c) u (by simp [h1]) h2).of_d)
theorem zeT{α β:Type}{f:α->Option β}:∀ {l:List α} {m:List β},l.mapM f=some m->m.length=l.length/\∀(i:Nat) (x:α) (y:β),l[i]? = some x->m[i]? = some y->f x=some y:=by
 intro l
 induction l with
 | nil=>intro m h;simp at h;subst h;simp
 | cons x l ih=>
  intro m h;simp only[zacU,zabT,zabW] at h;obtain⟨y,hy,h⟩:=zabp.1 h;obtain⟨ys,hys,h⟩:=zabp.1 h
  cases h
  obtain⟨h1,h2⟩:=ih hys;refine⟨by simp [h1],fun i a b ha hb=> ?_⟩
  match i,ha,hb with
  | 0,ha,hb=>simp at ha hb;subst ha hb;exact hy
  | n+1,ha,hb=>exact h2 n a b (by simpa using ha) (by simpa using hb)
theorem zrc{v:Value}{x:AV}(h:zfK v=some x)(w:World)(R:Nat->Prop)(ι:Inj)(mk:Nat->Option Nat):VA w R ι mk x v:=by
 unfold zfK at h
 split at h
 ·rename_i cs;obtain⟨ds,h1,h2⟩:=zabr.1 h;subst h2;obtain⟨hl,hg⟩:=zeT h1;have e:cs=cs.toList.toArray:=by simp
  rw[e];refine VA.mkAgg hl.symm (fun c hc=> ?_) fun i c u h3 h4=>(zq7 (hg i u c h4 h3) w R ι mk).1;obtain⟨i,hi⟩:=zab6 hc;have hlt:i<cs.toList.length:=by rw[<- hl];exact (zabB.1 hi).1
  exact (zq7 (hg i _ c (zabx hlt) hi) w R ι mk).2
 ·exact (zq7 h w R ι mk).1
theorem Rel.ev(h:Rel C S a w ι R){o:Operand}{x:Opd}(hx:opd o=some x):VA w R ι (mark S.heap) (x.ev S.env) (a.eval o):=by
 cases o with
 | tmp t=>
  simp only[opd] at hx
  split at hx
  ·rename_i ht
   cases hx
   simp only[Opd.ev]
   cases hl:look t S.env with
   | none=>exact .undef
   | some y=>exact h.tmp ht hl
  ·cases hx
 | const v=>
  simp only[opd] at hx
  split at hx
  ·cases hx;exact .undef
  ·obtain⟨y,h1,h2⟩:=zabr.1 hx;subst h2;exact zrc h1 _ _ _ _
 | global g=>cases hx
 | func f=>
  simp only[opd,Option.some.injEq] at hx;subst hx;exact .d (.fn (cs:=[]) (vs:=[]) rfl (by simp))
theorem Rel.change (h:Rel C S a w ι R) {w':World} {ι':Inj} {R':Nat->Prop} {H':zd}
    (os:w'.os=w.os) (tape:w'.tape=w.tape) (output:w'.output=w.output) (grow:w.heap.size<=w'.heap.size) (blk:∀b,b<w.heap.size->Blk w w' b 0)
    (keep:∀b,C.keep b->w'.heap[b]? = w.heap[b]?) (hR:∀b,R b->R' b) (rlt:∀b,R' b->b<w'.heap.size) (rok:∀b,R' b->C.R0 b\/¬C.keep b)
    (hK:zbK R w w') (own:∀o b s,ι' o=some (b,s)->¬C.keep b/\b<w'.heap.size) (inj:∀o o' b s s',ι' o=some (b,s)->ι' o'=some (b,s')->o=o')
    (st:∀p,zaX p S.env=true->Step w w' ι ι' (mark S.heap) (mark H') p)
    (hp:∀o ob,(o,ob)∈H'->OB w' R' ι' (mark H') o ob):Rel C ⟨S.env,H'⟩ a w' ι' R':=by
 refine⟨h.defers,h.size,os.trans h.os,tape.trans h.tape,output.trans h.output,zaca h.grow grow,fun b hb=>(h.len b hb).trans (blk b (zaco hb h.grow)),fun b hb=>(keep b hb).trans (h.keep b hb),h.keepLt,rlt,rok,
  fun b hb=>hR b (h.r0 b hb),own,inj,?_,hp⟩
 intro t x hx;obtain⟨u,h1,h2⟩:=h.env t x hx;refine⟨u,h1,h2.mono hR hK fun p hp=>st p ?_⟩
 cases hh:zaX p S.env with
 | true=>rfl
 | false=>rw[znm hx hh] at hp;cases hp
def zho(o:Nat)(S:St):Prop:=zaX o S.env=false/\zaq o S.heap=false
def upd(ι:Inj)(o:Nat)(p:Nat×Nat):Inj:=fun q=>if q=o then some p else ι q
theorem zcQ{o:Nat}{p:Nat×Nat}:upd ι o p o=some p:=by simp [upd]
theorem zbp{o q:Nat}{p:Nat×Nat}(h:q≠o):upd ι o p q=ι q:=by simp [upd,h]
theorem zej{H:zd}{o q:Nat}{ob:Obj}(h:q≠o):mark (zP o ob H) q=mark H q:=by simp [mark,zMf h]
theorem zei{H:zd}{o:Nat}{ob:Obj}:mark (zP o ob H) o=(match ob with| .acc n=>some n| .frz m=>m|_=>none):=by
 simp only[mark,zZk];cases ob<;>rfl
theorem zcU{o:Go.Obj}{b:Nat}(h:b<w.heap.size):(w.alloc o).heap[b]? = w.heap[b]? := heap_alloc_old w o b h
theorem zbK.alloc(h:Rel C S a w ι R)(o:Go.Obj):zbK R w (w.alloc o):=fun b hb=>zcU (h.rlt b hb)
theorem Step.other{w':World}{H':zd}{ι':Inj}{p:Nat}(hι:ι' p=ι p)(hm:mark H' p=mark S.heap p)(hb:∀b s,ι p=some (b,s)->w'.heap[b]? = w.heap[b]?):
    Step w w' ι ι' (mark S.heap) (mark H') p:=
 ⟨fun b s h=>by rw[hι,h],fun b s h=>Blk.of_eq (hb b s h),fun m h=>⟨m,by rw[hm,h],zabR _⟩,fun m h=>⟨m,by rw[<- hm,h],zabR _⟩⟩
theorem Rel.new (h:Rel C S a w ι R) {o s:Nat} {ob:Obj} (c:Array Value) (T:TypeId) (hu:zho o S)
    (hob:OB (w.alloc (.cells c T)) R (upd ι o (w.heap.size,s)) (mark (zP o ob S.heap)) o ob):
    Rel C ⟨S.env,zP o ob S.heap⟩ a (w.alloc (.cells c T)) (upd ι o (w.heap.size,s)) R:=by
 have hst:∀p,p≠o->Step w (w.alloc (.cells c T)) ι (upd ι o (w.heap.size,s)) (mark S.heap) (mark (zP o ob S.heap)) p:=fun p hp=>
  Step.other (zbp hp) (zej hp) fun b s hb=>zcU (h.own p b s hb).2
 refine h.change rfl rfl rfl (by simp) (fun b hb=>Blk.of_eq (zcU hb)) (fun b hb=>zcU (zaco (h.keepLt b hb) h.grow)) (fun _ hb=>hb) (fun b hb=>by have:=h.rlt b hb;simp;omega) h.rok (zbK.alloc h _) ?_ ?_ ?_ ?_
 ·intro q b s' hq
  by_cases e:q=o
  ·subst e;rw[zcQ] at hq;cases hq;exact⟨fun hk=>by have:=h.keepLt _ hk;have:=h.grow;omega,by simp⟩
  ·rw[zbp e] at hq;have:=h.own q b s' hq;exact⟨this.1,by simp;omega⟩
 ·intro q q' b s1 s2 h1 h2
  by_cases e:q=o<;>by_cases e':q'=o
  ·rw[e,e']
  ·subst e;rw[zcQ] at h1;rw[zbp e'] at h2;cases h1;have:=(h.own _ _ _ h2).2;omega
  ·subst e';rw[zcQ] at h2;rw[zbp e] at h1;cases h2;have:=(h.own _ _ _ h1).2;omega
  ·rw[zbp e] at h1;rw[zbp e'] at h2;exact h.inj _ _ _ _ _ h1 h2
 ·intro p hp;refine hst p fun e=> ?_;subst e;rw[hu.1] at hp;cases hp
 ·intro q ob' hq
  cases hq with
  | head=>exact hob
  | tail _ hq=>
   obtain⟨h1,h2⟩:=zi1.1 hq;refine (h.heap q ob' h1).mono (fun _ hb=>hb) (zbK.alloc h _) (fun b s' hb=>⟨by rw[zbp h2,hb],zcU (h.own q b s' hb).2,fun hb=>hb⟩) (fun h0=>by rw[zbp h2,h0]) fun p hp=> ?_;refine hst p fun e=> ?_;subst e;have:=zhd h1 hu.2;rw[hp] at this;cases this
theorem Rel.newRO(h:Rel C S a w ι R)(ob:Go.Obj):Rel C S a (w.alloc ob) ι (fun b=>R b\/b=w.heap.size):=by
 have hst:∀p,Step w (w.alloc ob) ι ι (mark S.heap) (mark S.heap) p:=fun p=>Step.same fun b s hb=>zcU (h.own p b s hb).2;refine h.change (H':=S.heap) rfl rfl rfl (by simp) (fun b hb=>Blk.of_eq (zcU hb)) (fun b hb=>zcU (zaco (h.keepLt b hb) h.grow)) (fun _ hb=> .inl hb) ?_ ?_ (zbK.alloc h _) ?_ h.inj (fun p _=>hst p) ?_
 ·rintro b (hb|rfl)
  ·have:=h.rlt b hb;simp;omega
  ·simp
 ·rintro b (hb|rfl)
  ·exact h.rok b hb
  ·exact .inr fun hk=>by have:=h.keepLt _ hk;have:=h.grow;omega
 ·intro o b s ho;have:=h.own o b s ho;exact⟨this.1,by simp;omega⟩
 ·intro q ob' hq;refine (h.heap q ob' hq).mono (fun _ hb=> .inl hb) (zbK.alloc h _) (fun b s' hb=> ?_) (fun h0=>h0) fun p _=>hst p;have:=(h.own q b s' hb).2;refine⟨hb,zcU this,?_⟩;rintro (hr|hr)
  ·exact hr
  ·omega
theorem Rel.drew(h:Rel C S a w ι R):Rel C S a w.drew ι R:=
 ⟨h.defers,h.size,h.os,h.tape,h.output,h.grow,h.len,h.keep,h.keepLt,h.rlt,h.rok,h.r0,h.own,h.inj,
  fun t x hx=>let ⟨u,h1,h2⟩:=h.env t x hx;⟨u,h1,h2.mono (fun _ h=>h) (fun _ _=>rfl) fun _ _=>Step.same fun _ _ _=>rfl⟩,
  fun o ob ho=>(h.heap o ob ho).mono (fun _ h=>h) (fun _ _=>rfl) (fun _ _ hb=>⟨hb,rfl,fun h=>h⟩) (fun h=>h) fun _ _=>Step.same fun _ _ _=>rfl⟩
end Go.Sim

namespace Go.Sim
open Go (World Value Addr TypeId Act)
def zR(C:Ctx)(S:St)(a:Act)(v:AV)(H:zd)(r:Result Next):Prop:=
 ∃u w' ι' R',(r= .ok (.value u) w'\/(r= .ok .skip w'/\u=Go.undef))/\Rel C ⟨S.env,H⟩ a w' ι' R'/\VA w' R' ι' (mark H) v u
variable {P:Program} {C:Ctx} {S:St} {a:Act} {w:World} {ι:Inj} {R:Nat->Prop}
theorem zR.same(h:Rel C S a w ι R){v:AV}{u:Value}(hv:VA w R ι (mark S.heap) v u){r:Result Next}(hr:r= .ok (.value u) w):zR C S a v S.heap r:=
 ⟨u,w,ι,R,.inl hr,h,hv⟩
section inv
variable {mk:Nat->Option Nat}
theorem VA.int_inv{k:IntKind}{n:Int}{u:Value}(h:VA w R ι mk (.d (.int k n)) u):u= .int k n/\k.has n:=by
 cases h with|d h=>cases h with|int h=>exact⟨rfl,h⟩
theorem VA.bool_inv{b:Bool}{u:Value}(h:VA w R ι mk (.d (.bool b)) u):u= .bool b:=by
 cases h with|d h=>cases h;rfl
theorem VA.str_inv{s:List UInt8}{u:Value}(h:VA w R ι mk (.d (.str s)) u):u= .string ⟨s.toArray⟩/\s.length<=LIM:=by
 cases h with|d h=>cases h with|str h=>exact⟨rfl,h⟩
theorem VA.pd_inv{x:D}{u:Value}(h:VA w R ι mk (.d (.pd x)) u):∃b off,u= .pointer (some ⟨b,off,none⟩)/\R b/\Rd w R (.el x b off):=by
 cases h with|d h=>cases h with|pd h1 h2=>exact⟨_,_,rfl,h1,h2⟩
theorem VA.tupD_inv{cs:List D}{u:Value}(h:VA w R ι mk (.d (.tup cs)) u):∃vs:List Value,u= .tuple vs.toArray/\vs.length=cs.length/\∀(i:Nat) (c:D) (q:Value),cs[i]? = some c->vs[i]? = some q->Rd w R (.v c q):=by
 cases h with|d h=>cases h with|tup h1 h2=>exact⟨_,rfl,h1,h2⟩
theorem VA.tup_inv{cs:List AV}{u:Value}(h:VA w R ι mk (.tup cs) u):∃vs:List Value,u= .tuple vs.toArray/\vs.length=cs.length/\∀(i:Nat) (c:AV) (q:Value),cs[i]? = some c->vs[i]? = some q->VA w R ι mk c q:=by
 cases h with|tup h1 h2=>exact⟨_,rfl,h1,h2⟩
end inv
theorem zfc(k:IntKind)(n:Int):k.has (k.wrap n):=by
 cases k<;>simp [IntKind.has,IntKind.wrap,IntKind.min,IntKind.max,IntKind.bits,IntKind.signed]<;>(try split)<;>omega
theorem zaar{k:IntKind}{x y:Int}(hx:k.has x):k.has (x.tmod y):=by
 have h1:(x.tmod y).natAbs<=x.natAbs:=by rw[Int.natAbs_tmod];exact Nat.mod_le _ _
 have h2:0<=x->0<=x.tmod y:=fun h=>zadS _ h;have h3:x<=0->x.tmod y<=0:=fun h=>by have:=zadS y (show 0<= -x by omega);rw[Int.neg_tmod] at this;omega
 generalize x.tmod y=z at *
 cases k<;>simp [IntKind.has,IntKind.min,IntKind.max,IntKind.bits,IntKind.signed] at * <;> omega
theorem zX5{T:TypeId}{op:BinOp}{k:IntKind}{x y:Int}{r:D}(h:zcI op k x y=some r)(hx:k.has x)(hop:op≠ .shl/\op≠ .shr)(w':World):
    ∃u,(binOp op T (.int k x) (.int k y)).run P w'= .ok u w'/\∀(w:World) (R:Nat->Prop),Rd w R (.v r u):=by
 cases op<;>simp only[zcI,Option.some.injEq,reduceCtorEq] at h
 case add=>subst h;exact⟨_,by simp [binOp,Op.intArith],fun w R=> .int (zfc _ _)⟩
 case sub=>subst h;exact⟨_,by simp [binOp,Op.intArith],fun w R=> .int (zfc _ _)⟩
 case mul=>subst h;exact⟨_,by simp [binOp,Op.intArith],fun w R=> .int (zfc _ _)⟩
 case quo=>split at h;cases h;rename_i h0;cases h;exact⟨_,by simp [binOp,Op.intDiv,h0],fun w R=> .int (zfc _ _)⟩
 case rem=>split at h;cases h;rename_i h0;cases h;exact⟨_,by simp [binOp,Op.intDiv,h0],fun w R=> .int (zaar hx)⟩
 case and=>subst h;exact⟨_,by simp [binOp,Op.intBits],fun w R=> .int (zfc _ _)⟩
 case or=>subst h;exact⟨_,by simp [binOp,Op.intBits],fun w R=> .int (zfc _ _)⟩
 case xor=>subst h;exact⟨_,by simp [binOp,Op.intBits],fun w R=> .int (zfc _ _)⟩
 case andNot=>subst h;exact⟨_,by simp [binOp,Op.intBits],fun w R=> .int (zfc _ _)⟩
 all_goals (subst h;exact⟨_,by simp [binOp,Op.intCmp];try rfl,fun w R=> .bool⟩)
theorem z5f{k:IntKind}{x:Int}(n:Nat)(hx:k.has x):k.has (x.fdiv (2 ^ n)):=by
 have hp:(0:Int)<2 ^ n:=Int.pow_pos (by omega);rw[zaeA _ (Int.le_of_lt hp)];have h1:0<=x->0<=x / 2 ^ n/\x / 2 ^ n<=x:=fun h=>⟨Int.ediv_nonneg h (Int.le_of_lt hp),Int.ediv_le_self _ h⟩;have h2:x<0->x<=x / 2 ^ n/\x / 2 ^ n<0:=fun h=>by
  refine⟨?_,Int.ediv_neg_of_neg_of_pos h hp⟩;rw[Int.le_ediv_iff_mul_le hp];have h1:(1:Int)<=2 ^ n:=hp;have:=Int.mul_le_mul_of_nonpos_left (a:=x) (b:=2 ^ n) (c:=1) (by omega) h1;simpa using this
 generalize x / 2 ^ n=z at *
 cases k<;>simp [IntKind.has,IntKind.min,IntKind.max,IntKind.bits,IntKind.signed] at * <;> omega
theorem z9f{op:BinOp}{k k':IntKind}{x y:Int}{r:D}(h:zk9 op k x y=some r)(hx:k.has x)(T:TypeId)(w':World):
    ∃u,(binOp op T (.int k x) (.int k' y)).run P w'= .ok u w'/\∀(w:World) (R:Nat->Prop),Rd w R (.v r u):=by
 unfold zk9 at h
 split at h
 ·cases h
 ·rename_i hy
  cases op<;>simp only[Option.some.injEq,reduceCtorEq] at h
  ·subst h;exact⟨_,by simp [binOp,Op.shift,hy],fun w R=> .int (zfc _ _)⟩
  ·subst h;exact⟨_,by simp [binOp,Op.shift,hy],fun w R=> .int (z5f _ hx)⟩
theorem zQ4(a:List UInt8):(⟨a.toArray⟩:ByteArray).toList=a:=by
 rw[ByteArray.toList_eq]
theorem z9U{op:BinOp}{x y:List UInt8}{r:D}(h:znG op x y=some r)(T:TypeId)(w':World):
    ∃u,(binOp op T (.string ⟨x.toArray⟩) (.string ⟨y.toArray⟩)).run P w'= .ok u w'/\∀(w:World) (R:Nat->Prop),Rd w R (.v r u):=by
 cases op<;>simp only[znG,Option.some.injEq,reduceCtorEq] at h
 case add=>
  split at h
  ·rename_i hl;cases h;refine⟨.string ⟨(x++y).toArray⟩,?_,fun w R=> .str hl⟩;have h1:¬(IntKind.i64.max<((x.length:Int)+(y.length:Int))):=by
    simp only[zabv,LIM] at hl;simp [IntKind.max,IntKind.signed,IntKind.bits];omega
   simp only[zadB,IntKind.max,IntKind.signed,IntKind.bits] at h1;have h2:((⟨x.toArray⟩:ByteArray)++⟨y.toArray⟩)=⟨(x++y).toArray⟩:=by
    ext1;simp
   simp [binOp,Op.stringOp,h2,ByteArray.size,IntKind.max,IntKind.signed,IntKind.bits];simpa using h1
  ·cases h
 case eql=>subst h;exact⟨.bool (decide (x=y)),by simp [binOp,Op.stringOp,zQ4];by_cases e:x=y<;>simp [e],fun w R=> .bool⟩
 case neq=>subst h;exact⟨.bool (!decide (x=y)),by simp [binOp,Op.stringOp,zQ4];by_cases e:x=y<;>simp [e],fun w R=> .bool⟩
end Go.Sim

namespace Go.Sim
open Go (World Value Addr TypeId Act)
variable {P:Program} {C:Ctx} {S:St} {a:Act} {w:World} {ι:Inj} {R:Nat->Prop}
theorem zmA{t:TypeId}{ag:Bool}(h:zbi P t=some ag)(w:World):(isAgg t).run P w= .ok ag w:=by
 unfold zbi at h;unfold isAgg
 cases hu:P.underlying t with
 | none=>simp [hu] at h
 | some d=>
  rw[Sem.run_bind,run_underlying hu w]
  cases d<;>simp [hu] at h<;>subst h<;>simp
theorem zet{t:TypeId}{n:Nat}(h:zaQ P t=some n)(w:World):(sizeOf t).run P w= .ok n w:=by
 unfold zaQ at h;obtain⟨i,h1,h2⟩:=zabr.1 h;simp [sizeOf,typeInfo,h1,h2]
theorem zu2{w:World}{b off n:Nat}{Q:Nat->Value->Prop}(h:∀j,j<n->∃q,w.cell? ⟨b,off+j,none⟩=some q/\Q j q):
    ∃qs:List Value,qs.length=n/\w.rangeAt b off qs/\∀j q,qs[j]? = some q->Q j q:=by
 refine⟨(List.range n).map fun j=>(w.cell? ⟨b,off+j,none⟩).getD Go.undef,by simp,?_,?_⟩
 ·intro j v hv;have hj:j<n:=by have:=(zabB.1 hv).1;simpa using this
  obtain⟨q,h1,_⟩:=h j hj;rw[zabI,List.getElem?_range hj] at hv;simp [h1] at hv;rw[h1,hv]
 ·intro j v hv;have hj:j<n:=by have:=(zabB.1 hv).1;simpa using this
  obtain⟨q,h1,h2⟩:=h j hj;rw[zabI,List.getElem?_range hj] at hv;simp [h1] at hv;subst hv;exact h2
theorem zL8{t:TypeId}{n b off:Nat}{qs:List Value}(hag:zbi P t=some true)(hn:zaQ P t=some n)(hl:qs.length=n)(hr:w.rangeAt b off qs):
    (loadVar t ⟨b,off,none⟩).run P w= .ok (.agg qs.toArray) w:=by
 have h1:=run_loadCells_list (P:=P) w ⟨b,off,none⟩ qs (fun j v hv=>by rw[Addr.add_mid];exact hr j v hv);rw[hl] at h1;simp [loadVar,zmA hag,zet hn,h1]
theorem zL9{t:TypeId}{b off:Nat}{q:Value}(hag:zbi P t=some false)(hq:w.cell? ⟨b,off,none⟩=some q):
    (loadVar t ⟨b,off,none⟩).run P w= .ok q w:=by
 simp [loadVar,zmA hag,hq]
theorem D.size_agg(cs:List D):(D.agg cs).size=cs.length:=rfl
theorem zR8(x:D):x.asAgg= .agg x.cells:=by cases x<;>rfl
theorem zhb{ag:Bool}{off n:Nat}{x y:D}(h:zcc ag off n x=some y)(hn:n≠0):
    off+n<=x.size/\((ag=true/\y= .agg ((x.cells.drop off).take n))\/(ag=false/\n=1/\x.cells[off]? = some y)):=by
 unfold zcc at h
 cases ag with
 | true=>
  simp only[if_true] at h
  split at h
  ·rename_i h1;cases h;refine⟨by omega,.inl ⟨rfl,?_⟩⟩;rw[zR8,h1.1,h1.2];simp [D.size]
  ·split at h
   ·rename_i h1;cases h;exact⟨h1,.inl ⟨rfl,rfl⟩⟩
   ·cases h
 | false=>
  simp only[zabz,if_false] at h
  split at h
  ·rename_i h1;have:=(zabB.1 h).1;exact⟨by simp [D.size];omega,.inr ⟨rfl,h1,h⟩⟩
  ·cases h
theorem ztD{α:Type}{l:List α}{off n j:Nat}(h:off+n<=l.length)(hj:j<n):((l.drop off).take n)[j]? = l[off+j]? := by
 rw[zadg hj,zado]
theorem Rd.part_el{x y:D}{b o off n:Nat}{ag:Bool}(h:Rd w R (.el x b o))(hp:zcc ag off n x=some y)(hn:n≠0):Rd w R (.el y b (o+off)):=by
 obtain⟨h1,h2|⟨_,_,h2⟩⟩:=zhb hp hn
 ·obtain⟨_,rfl⟩:=h2;have hc:=h.v_of_cells;refine Rd.el_of_cells (fun vs=>by simp) fun i c hi=> ?_;have hi:((x.cells.drop off).take n)[i]? = some c:=hi;have hlt:i<n:=by have:=(zabB.1 hi).1;simp at this;omega
  rw[ztD h1 hlt] at hi;obtain⟨k1,q,k2,k3⟩:=hc _ _ hi;exact⟨k1,q,by rw[<- k2];congr 2;omega,k3⟩
 ·obtain⟨k1,q,k2,k3⟩:=h.v_of_cells _ _ h2;exact .elc k1 k2 k3
theorem Rd.load{x y:D}{b o n:Nat}{ag:Bool}{t:TypeId}(h:Rd w R (.el x b o))(hp:zcc ag 0 n x=some y)(hn:n≠0)(hag:zbi P t=some ag)(hsz:zaQ P t=some n):
    ∃u,(loadVar t ⟨b,o,none⟩).run P w= .ok u w/\Rd w R (.v y u):=by
 obtain⟨h1,⟨rfl,rfl⟩|⟨rfl,h0,h2⟩⟩:=zhb hp hn
 ·have hc:=h.v_of_cells;have hlen:n<=x.cells.length:=by simpa [D.size] using h1
  obtain⟨qs,hl,hr,hq⟩:=zu2 (w:=w) (b:=b) (off:=o) (n:=n) (Q:=fun j q=>∀c,x.cells[j]? = some c->c.cell=true/\Rd w R (.v c q)) fun j hj=>by
   have he:x.cells[j]? = some x.cells[j]:=zabx (by omega);obtain⟨k1,q,k2,k3⟩:=hc j _ he;exact⟨q,k2,fun c hc'=>by rw[he] at hc';cases hc';exact⟨k1,k3⟩⟩
  refine⟨_,zL8 hag hsz hl hr,?_⟩;have key:∀(i:Nat) (c:D),((x.cells.drop 0).take n)[i]? = some c->i<n/\x.cells[i]? = some c:=fun i c hi=>by
   have hlt:i<n:=by have:=(zabB.1 hi).1;simp at this;omega
   rw[ztD (by omega) hlt] at hi;exact⟨hlt,by simpa using hi⟩
  refine .agg (by simp;omega) (fun c hc'=> ?_) fun i c u h3 h4=>(hq i u h4 c (key i c h3).2).2;obtain⟨i,hi⟩:=zab6 hc';obtain⟨hlt,hx⟩:=key i c hi;obtain⟨k1,_⟩:=hc i c hx;exact k1
 ·obtain⟨k1,q,k2,k3⟩:=h.v_of_cells _ _ h2;exact⟨q,zL9 hag (by simpa using k2),k3⟩
def ElA(w:World)(R:Nat->Prop)(ι:Inj)(mk:Nat->Option Nat)(e:AV)(b off:Nat):Prop:=
 ∀(j:Nat) (x:AV),e.cells[j]? = some x->x.cell=true/\∃q,w.cell? ⟨b,off+j,none⟩=some q/\VA w R ι mk x q
theorem ElA.load{mk:Nat->Option Nat}{e v:AV}{b o off n:Nat}{ag:Bool}{t:TypeId}(h:ElA w R ι mk e b o)(hp:zep ag off n e=some v)(hn:n≠0)(hag:zbi P t=some ag)(hsz:zaQ P t=some n):
    ∃u,(loadVar t ⟨b,o+off,none⟩).run P w= .ok u w/\VA w R ι mk v u:=by
 have general:∀(m:Nat),m=n->off+n<=e.cells.length->ag=true->∃u,(loadVar t ⟨b,o+off,none⟩).run P w= .ok u w/\VA w R ι mk (AV.mkAgg ((e.cells.drop off).take n)) u:=by
  intro m _ hlen hagt;obtain⟨qs,hl,hr,hq⟩:=zu2 (w:=w) (b:=b) (off:=o+off) (n:=n) (Q:=fun j q=>∀c,e.cells[off+j]? = some c->c.cell=true/\VA w R ι mk c q) fun j hj=>by
   have he:e.cells[off+j]? = some e.cells[off+j]:=zabx (by omega);obtain⟨k1,q,k2,k3⟩:=h _ _ he;exact⟨q,by rw[<- k2];congr 2;omega,fun c hc'=>by rw[he] at hc';cases hc';exact⟨k1,k3⟩⟩
  refine⟨_,zL8 (hagt ▸ hag) hsz hl hr,?_⟩;have key:∀(i:Nat) (c:AV),((e.cells.drop off).take n)[i]? = some c->i<n/\e.cells[off+i]? = some c:=fun i c hi=>by
   have hlt:i<n:=by have:=(zabB.1 hi).1;simp at this;omega
   rw[ztD (by omega) hlt] at hi;exact⟨hlt,hi⟩
  refine VA.mkAgg (by simp;omega) (fun c hc'=> ?_) fun i c u h3 h4=>(hq i u h4 c (key i c h3).2).2;obtain⟨i,hi⟩:=zab6 hc';exact (h _ _ (key i c hi).2).1
 cases e with
 | d x=>
  simp only[zep,zabr] at hp;obtain⟨y,hp,rfl⟩:=hp;have hel:Rd w R (.el x b o)\/∃vs,x= .tup vs:=by
   by_cases hx:∃vs,x= .tup vs
   ·exact .inr hx
   ·refine .inl (Rd.el_of_cells (fun vs hvs=>hx ⟨vs,hvs⟩) fun i c hi=> ?_);obtain⟨k1,q,k2,k3⟩:=h i (.d c) (by simp [AV.cells,hi]);exact⟨k1,q,k2,k3.of_d⟩
  rcases hel with hel|⟨vs,rfl⟩
  ·obtain⟨h1,_⟩:=zhb hp hn;have h2:=hel.part_el hp hn;have:∃z,zcc ag 0 n y=some z/\z=y:=by
    obtain⟨h1,⟨rfl,rfl⟩|⟨rfl,h0,h2⟩⟩:=zhb hp hn
    ·refine⟨_,?_,rfl⟩;simp only[zcc,if_true];have e:n=(D.agg (List.take n (List.drop off x.cells))).size:=by rw[D.size_agg,zac9,zadA];have h1:off+n<=x.cells.length:=h1;omega
     rw[zabo ⟨trivial,e⟩];rfl
    ·refine⟨y,?_,rfl⟩;subst h0;have:=(hel.v_of_cells _ _ h2).1;simp [zcc,D.cells_cell this]
   obtain⟨z,hz,rfl⟩:=this;obtain⟨u,k1,k2⟩:=h2.load hz hn hag hsz;exact⟨u,k1,.d k2⟩
  ·have:=(h 0 (.d (.tup vs)) (by simp [AV.cells,D.cells])).1;simp [AV.cell,D.cell] at this
 | _=>
  simp only[zep] at hp
  cases ag with
  | true=>
   simp only[if_true] at hp
   split at hp
   ·rename_i h1;cases hp;exact general n rfl (by rw[AV.size_cells];omega) rfl
   ·cases hp
  | false=>
   simp only[zabz,if_false] at hp
   split at hp
   ·obtain⟨k1,q,k2,k3⟩:=h _ _ hp;exact⟨q,zL9 hag k2,k3⟩
   ·cases hp
end Go.Sim

namespace Go.Sim
open Go (World Value Addr TypeId Act)
variable {P:Program} {C:Ctx} {S:St} {a:Act} {w:World} {ι:Inj} {R:Nat->Prop}
theorem z4N{ag:Bool}{off n:Nat}{x y:D}(h:zcc ag off n x=some y)(hn:n≠0)(hc:ag=false->y.cell=true):y.size=n:=by
 obtain⟨h1,⟨rfl,rfl⟩|⟨rfl,h0,h2⟩⟩:=zhb h hn
 ·rw[D.size_agg,zac9,zadA];have h1:off+n<=x.cells.length:=h1;omega
 ·rw[D.size_cell (hc rfl),h0]
theorem zHx{mk:Nat->Option Nat}{ag:Bool}{off n:Nat}{x v:AV}{u:Value}(h:VA w R ι mk x u)(hp:zd6 ag off n x=some v)(hn:n≠0):
    ∃b o,u= .pointer (some ⟨b,o,none⟩)/\VA w R ι mk v (.pointer (some ⟨b,o+off,none⟩)):=by
 cases h with
 | ref h hmk=>simp only[zd6,Option.some.injEq] at hp;subst hp;exact⟨_,_,rfl,by rw[zadx];exact .ref h hmk⟩
 | d h=>
  cases h with
  | pd h1 h2=>
   simp only[zd6,zabr] at hp;obtain⟨z,hz,rfl⟩:=hp;exact⟨_,_,rfl,.d (.pd h1 (h2.part_el hz hn))⟩
  | _=>simp [zd6] at hp
 | peR h1 h2=>
  simp only[zd6,zabr] at hp;obtain⟨z,hz,rfl⟩:=hp;exact⟨_,_,rfl,.peR h1 (h2.part_el hz hn)⟩
 | peC h1 h2 h3 h4 h5=>
  simp only[zd6,zabr] at hp;obtain⟨z,hz,rfl⟩:=hp;refine⟨_,_,rfl,.peC h1 h2 h3 ?_ (h5.part_el hz hn)⟩;have h6:=(zhb hz hn).1;have h7:=z4N hz hn fun hag=>by
   subst hag;obtain⟨_,⟨h,_⟩|⟨_,_,h⟩⟩:=zhb hz hn
   ·cases h
   ·exact (h5.v_of_cells _ _ h).1
  omega
 | _=>simp [zd6] at hp
theorem Rd.sl_inv{es:List D}{u:Value}(h:Rd w R (.v (.sl es) u))(h0:es≠[]):∃b off s cap,u= .slice (some ⟨b,off,none⟩) es.length cap/\R b/\0<s/\es.length<=LIM/\es.length<=cap/\(∀e∈es,e.size=s)/\
    ∀(i:Nat) (e:D),es[i]? = some e->Rd w R (.el e b (off+i * s)):=by
 cases h with
 | sl0=>exact absurd rfl h0
 | sl hR _ hs hl hc hsz h=>exact⟨_,_,_,_,rfl,hR,hs,hl,hc,hsz,h⟩
theorem Rd.sl_len{es:List D}{u:Value}(h:Rd w R (.v (.sl es) u)):∃a cap,u= .slice a es.length cap/\es.length<=cap/\es.length<=LIM:=by
 cases h with
 | sl0=>exact⟨_,_,rfl,by simp,by simp⟩
 | sl hR _ hs hl hc hsz h=>exact⟨_,_,rfl,hc,hl⟩
theorem zZG{es:List D}{i:Nat}{e:D}(h:es[i]? = some e):es≠[]:=by rintro rfl;simp at h
theorem zXL{n:Nat}{i:Int}{x v:AV}{u:Value}(hr:Rel C S a w ι R)(h:VA w R ι (mark S.heap) x u)(hp:zcH S.heap n i x=some v)(hi:0<=i):
    ∃b o len cap,u= .slice (some ⟨b,o,none⟩) len cap/\i<len/\VA w R ι (mark S.heap) v (.pointer (some ⟨b,o+i.toNat * n,none⟩)):=by
 have slc:∀(es:List D),Rd w R (.v (.sl es) u)->(es[i.toNat]?.bind fun e=>if e.size=n then some (AV.d (.pd e)) else none)=some v->
     ∃b o len cap,u= .slice (some ⟨b,o,none⟩) len cap/\i<len/\VA w R ι (mark S.heap) v (.pointer (some ⟨b,o+i.toNat * n,none⟩)):=by
  intro es h hp;obtain⟨e,he,hp⟩:=zabp.1 hp
  split at hp
  ·rename_i hsz;cases hp;obtain⟨b,off,s,cap,rfl,hR,hs,hl,hc,hz,hh⟩:=h.sl_inv (zZG he);have hlt:=(zabB.1 he).1;have:=hz e (zabK he);refine⟨_,_,_,_,rfl,by omega,.d (.pd hR ?_)⟩;rw[<- hsz,this];exact hh _ _ he
  ·cases hp
 cases x with
 | d y=>cases y with
  | sl es=>exact slc es h.of_d hp
  | _=>simp [zcH] at hp
 | xsl es=>cases h with|xsl h=>exact slc es h hp
 | osl o off len=>
  simp only[zcH] at hp
  split at hp
  ·rename_i hlen
   split at hp
   ·rename_i es hes;obtain⟨e,he,hp⟩:=zabp.1 hp
    split at hp
    ·rename_i hsz;cases hp
     cases h with
     | osl0=>exact absurd hlen (by omega)
     | @osl _ _ _ cap b s c T hι hmk hb hl hc hL=>
      have hob:=hr.heap _ _ (zav hes)
      cases hob with
      | row hι' _ _ _ hsz' _ _=>
       rw[hι] at hι';cases hι';have:=hsz' e (zabK he);refine⟨_,_,_,_,rfl,hlen,?_⟩;have e1:off * s+i.toNat * n=(off+i.toNat) * s+0:=by rw[<- hsz,this,zach,zacI]
       rw[e1];exact .ref hι hmk
    ·cases hp
   ·cases hp
  ·cases hp
 | acc o es=>
  simp only[zcH] at hp;obtain⟨e,he,hp⟩:=zabp.1 hp
  split at hp
  ·rename_i hsz;cases hp;have hlt:=(zabB.1 he).1
   cases h with
   | accR hR hs hL hl hz hh hm=>
    have:=hz e (zabK he);refine⟨_,_,_,_,rfl,by omega,.peR hR ?_⟩;rw[<- hsz,this];exact hh _ _ he
   | @accC _ b s m cap _ c T hι hmk hm hL hl hz hb hc hh=>
    have:=hz e (zabK he);refine⟨_,_,_,_,rfl,by omega,?_⟩;rw[<- hsz,this,zabU];refine .peC hι hmk hb ?_ (hh _ _ he);rw[this]
    calc i.toNat * s+s=(i.toNat+1) * s:=by rw[zacq]
     _<=m * s:=zab2 _ (by omega)
   | acc0=>simp at hlt
  ·cases hp
 | _=>simp [zcH] at hp
theorem zBw{mk:Nat->Option Nat}{x:AV}{u:Value}(h:VA w R ι mk x u)(hx:x.cell=true):u.oneCell'=true:=by
 cases h with
 | d h=>cases h<;>simp_all [AV.cell,D.cell,Value.oneCell']
 | _=>simp_all [AV.cell,Value.oneCell']
theorem VA.cells{mk:Nat->Option Nat}{x:AV}{u:Value}(h:VA w R ι mk x u)(hx:zbR x=false):
    u.cells.size=x.size/\∀(i:Nat) (c:AV),x.cells[i]? = some c->c.cell=true/\∃q,u.cells[i]? = some q/\VA w R ι mk c q:=by
 have one:∀ {x:AV} {u:Value},VA w R ι mk x u->x.cell=true->x.cells=[x]->x.size=1->u.cells= #[u]->(u.cells.size=x.size/\∀(i:Nat) (c:AV),x.cells[i]? = some c->c.cell=true/\∃q,u.cells[i]? = some q/\VA w R ι mk c q):=by
  intro x u h h1 h2 h3 h4;refine⟨by simp [h3,h4],fun i c hc=> ?_⟩;rw[h2] at hc
  match i,hc with
  | 0,hc=>simp at hc;subst hc;exact⟨h1,u,by simp [h4],h⟩
  | n+1,hc=>simp at hc
 cases h with
 | @d x u h=>
  have ht:∀vs,x≠ .tup vs:=fun vs e=>by subst e;simp [zbR] at hx
  obtain⟨h1,h2⟩:=h.cells_of_v ht;refine⟨h1,fun i c hc=> ?_⟩;simp only[AV.cells,zabI,zabr] at hc;obtain⟨c',hc',rfl⟩:=hc;obtain⟨k1,q,k2,k3⟩:=h2 i c' hc';exact⟨k1,q,k2,.d k3⟩
 | agg hl hc h=>
  refine⟨by simp [Value.cells,AV.size,hl],fun i c hi=> ?_⟩;rename_i cs vs;have hi:cs[i]? = some c:=hi;have hlt:i<cs.length:=(zabB.1 hi).1;have hq:vs[i]? = some (vs[i]'(by omega)):=zabx _;exact⟨hc c (zabK hi),_,by simp only[Value.cells,zadI];exact hq,h i c _ hi hq⟩
 | tup=>simp [zbR] at hx
 | undef=>simp [zbR] at hx
 | nl1=>exact one .nl1 rfl rfl rfl rfl
 | nl2=>exact one .nl2 rfl rfl rfl rfl
 | mpr a b=>exact one (.mpr a b) rfl rfl rfl rfl
 | ref h hm=>exact one (.ref h hm) rfl rfl rfl rfl
 | osl a b c d e f=>exact one (.osl a b c d e f) rfl rfl rfl rfl
 | osl0=>exact one .osl0 rfl rfl rfl rfl
 | accR a b c d e f g=>exact one (.accR a b c d e f g) rfl rfl rfl rfl
 | accC a b c d e f g h i=>exact one (.accC a b c d e f g h i) rfl rfl rfl rfl
 | peR a b=>exact one (.peR a b) rfl rfl rfl rfl
 | peC a b c d e=>exact one (.peC a b c d e) rfl rfl rfl rfl
 | acc0=>exact one .acc0 rfl rfl rfl rfl
 | xsl a=>exact one (.xsl a) rfl rfl rfl rfl
 | fn a b=>exact one (.fn a b) rfl rfl rfl rfl
theorem zMp(cs:List AV):(AV.mkAgg cs).cells=cs/\(AV.mkAgg cs).size=cs.length:=by
 unfold AV.mkAgg
 cases h:zbq cs with
 | none=>exact⟨rfl,rfl⟩
 | some ds=>
  have:=ziu h;subst this;simp [AV.cells,AV.size,D.cells,D.size]
theorem zQJ{α:Type}(l m:List α)(off j:Nat)(h:off+m.length<=l.length):
    (zfv l off m)[j]? = if off<=j/\j<off+m.length then m[j - off]? else l[j]? := by
 unfold zfv;have hlt:(l.take off).length=off:=by simp;omega
 by_cases h1:j<off
 ·rw[zabn (by omega),zab9,zacN (by omega),zadg h1]
 ·by_cases h2:j<off+m.length
  ·rw[zabo ⟨by omega,h2⟩,zab9,zacE (by omega),zacN (by omega),hlt]
  ·rw[zabn (by omega),zacE (by simp;omega),zado]
   congr 1;simp;omega
theorem zQK{α:Type}(l m:List α)(off:Nat)(h:off+m.length<=l.length):(zfv l off m).length=l.length:=by
 simp [zfv];omega
theorem zMQ{x v y:AV}{off:Nat}(h:zcM x off v=some y):off+v.size<=x.size/\y.size=x.size/\
    ∀j,y.cells[j]? = if off<=j/\j<off+v.size then v.cells[j - off]? else x.cells[j]? := by
 unfold zcM at h
 split at h
 ·rename_i h1;cases h;refine⟨by omega,h1.2,fun j=> ?_⟩
  by_cases hj:j<v.size
  ·rw[zabo ⟨by omega,by omega⟩,h1.1];rfl
  ·rw[zabn (by omega),zadl (by rw[AV.size_cells];omega),zadl (by rw[AV.size_cells];omega)]
 ·split at h
  ·rename_i h1;cases h;obtain⟨k1,k2⟩:=zMp (zfv x.cells off v.cells);have h2:off+v.cells.length<=x.cells.length:=by rw[AV.size_cells,AV.size_cells];exact h1
   refine⟨h1,by rw[k2,zQK _ _ _ h2,AV.size_cells],fun j=> ?_⟩;rw[k1,zQJ _ _ _ _ h2,AV.size_cells]
  ·cases h
theorem zCL(w:World)(b o:Nat)(vs:List Value){c:Array Value}{T:TypeId}(hb:w.heap[b]? = some (.cells c T (0,0))):
    ∃c',(w.setCells b o vs).heap[b]? = some (.cells c' T (0,0))/\c'.size=c.size/\∀j,c'[j]? = if o<=j/\j<o+vs.length/\j<c.size then vs[j - o]? else c[j]? := by
 induction vs generalizing o w c with
 | nil=>exact⟨c,hb,rfl,fun j=>by rw[zabn (by simp;omega)]⟩
 | cons v vs ih=>
  simp only[World.setCells];have h1:(w.setCell ⟨b,o,none⟩ v).heap[b]? = some (.cells (c.setIfInBounds o v) T (0,0)):=by
   simp [World.setCell,zad8,hb]
  obtain⟨c',h2,h3,h4⟩:=ih (w:=w.setCell ⟨b,o,none⟩ v) (o:=o+1) h1;refine⟨c',h2,by rw[h3];simp,fun j=> ?_⟩;rw[h4 j];simp only[Array.size_setIfInBounds,zabu]
  by_cases hj:j=o
  ·subst hj;rw[zabn (by omega)]
   by_cases hc:j<c.size
   ·rw[zabo ⟨by omega,by omega,hc⟩,zad9 hc];simp
   ·rw[zabn (by omega),zadN (by simp;omega),zadN (by omega)]
  ·rw[zaea (Ne.symm hj)]
   by_cases hh:o+1<=j/\j<o+1+vs.length/\j<c.size
   ·rw[zabo hh,zabo ⟨by omega,by omega,hh.2.2⟩];have:j - o=(j - (o+1))+1:=by omega
    rw[this,zad2]
   ·rw[zabn hh,zabn (by omega)]
theorem zdR(w:World)(b o:Nat)(vs:List Value){b':Nat}(h:b'≠b):(w.setCells b o vs).heap[b']? = w.heap[b']? := by
 induction vs generalizing o w with
 | nil=>rfl
 | cons v vs ih=>simp only[World.setCells];rw[ih,heap_setCell_other _ _ _ _ h]
theorem zCM(w:World)(b o:Nat)(vs:List Value):(w.setCells b o vs).os=w.os/\(w.setCells b o vs).tape=w.tape/\(w.setCells b o vs).output=w.output/\(w.setCells b o vs).heap.size=w.heap.size:=by
 induction vs generalizing o w with
 | nil=>exact⟨rfl,rfl,rfl,rfl⟩
 | cons v vs ih=>simp only[World.setCells];obtain⟨h1,h2,h3,h4⟩:=ih (w:=w.setCell ⟨b,o,none⟩ v) (o:=o+1);exact⟨h1,h2,h3,by rw[h4];simp⟩
theorem zhi{α:Type}{k:Nat}{x:α}{l:List (Nat×α)}{p:Nat×α}(h:p∈zP k x l):p=(k,x)\/(p∈l/\p.1≠k):=by
 cases h with
 | head=>exact .inl rfl
 | tail _ h=>exact .inr (zi1.1 h)
theorem Rel.storeW (h:Rel C S a w ι R) {o i off:Nat} {v e e':AV} {es:List AV} {u:Value} (hes:look o S.heap=some (.row es)) (he:es[i]? = some e) (hov:zcM e off v=some e')
    (hv:VA w R ι (mark S.heap) v u) (hvt:zbR v=false) {p:Value} (hp:VA w R ι (mark S.heap) (.ref o i off) p):
    ∃b s,p= .pointer (some ⟨b,i * s+off,none⟩)/\ι o=some (b,s)/\u.cells.size=v.size/\(∀j,j<u.cells.toList.length->(w.cell? ⟨b,i * s+off+0+j,none⟩).isSome=true/\w.frozen? ⟨b,i * s+off+0+j,none⟩=false)/\
     (∀q∈u.cells.toList,q.oneCell'=true)/\Rel C ⟨S.env,zP o (.row (es.set i e')) S.heap⟩ a (w.setCells b (i * s+off) u.cells.toList) ι R:=by
 cases hp with
 | @ref _ _ _ b s hι hmk0=>
  have hob:=h.heap _ _ (zav hes)
  cases hob with
  | @row _ b' s' c T hι' hRb hb hs hes' hc hcell=>
   rw[hι] at hι';cases hι';obtain⟨hu1,hu2⟩:=hv.cells hvt;obtain⟨ho1,ho2,ho3⟩:=zMQ hov;have hilt:i<es.length:=(zabB.1 he).1;have hesz:e.size=s:=hes' e (zabK he);have hbound:i * s+s<=c.size:=by
    have:(i+1) * s<=es.length * s:=zab2 _ hilt;rw[zacq] at this;omega
   have hvl:u.cells.toList.length=v.size:=by rw[Array.length_toList,hu1]
   have hthere:∀j,j<u.cells.toList.length->(w.cell? ⟨b,i * s+off+0+j,none⟩).isSome=true/\w.frozen? ⟨b,i * s+off+0+j,none⟩=false:=fun j hj=>by
    refine⟨?_,frozen_of_row w b _ c T hb⟩;rw[zcq hb];simp;omega
   have hone:∀q∈u.cells.toList,q.oneCell'=true:=fun q hq=>by
    obtain⟨j,hj⟩:=zab6 hq;have hlt:j<v.cells.length:=by rw[AV.size_cells, <- hvl];exact (zabB.1 hj).1
    obtain⟨k1,q',k2,k3⟩:=hu2 j _ (zabx hlt);have:q'=q:=by
     rw[<- zaec,hj] at k2;cases k2;rfl
    subst this;exact zBw k3 k1
   refine⟨b,s,rfl,hι,hu1,hthere,hone,?_⟩
   ·obtain⟨c',hc1,hc2,hc3⟩:=zCL w b (i * s+off) u.cells.toList hb;obtain⟨r1,r2,r3,r4⟩:=zCM w b (i * s+off) u.cells.toList;have hKR:zbK R w (w.setCells b (i * s+off) u.cells.toList):=fun b' hb'=>zdR _ _ _ _ (fun e=>hRb (e ▸ hb'));have hmk:∀q,mark (zP o (Obj.row (es.set i e')) S.heap) q=mark S.heap q:=fun q=>by
     by_cases e:q=o
     ·subst e;rw[zei];simp [mark,hes]
     ·exact zej e
    have hmkf:mark (zP o (Obj.row (es.set i e')) S.heap)=mark S.heap:=funext hmk;have hstep:∀q,Step w (w.setCells b (i * s+off) u.cells.toList) ι ι (mark S.heap) (mark S.heap) q:=fun q=>by
     refine⟨fun _ _ h=>h,fun b1 s1 hq=> ?_,fun m h=>⟨m,h,zabR _⟩,fun m h=>⟨m,h,zabR _⟩⟩
     by_cases e:b1=b
     ·subst e;have hqo:q=o:=h.inj _ _ _ _ _ hq hι;subst hqo;have hm0:mark S.heap q=none:=by simp [mark,hes]
      rw[hm0];intro c1 T1 hc1';rw[hb] at hc1';cases hc1';exact⟨c',hc1,hc2,fun j hj=>by simp at hj⟩
     ·exact Blk.of_eq (zdR _ _ _ _ e)
    refine h.change r1 r2 r3 (by omega) (fun b' _=>by
        by_cases e:b'=b
        ·subst e;intro c1 T1 hc1';rw[hb] at hc1';cases hc1';exact⟨c',hc1,hc2,fun j hj=>by simp at hj⟩
        ·exact Blk.of_eq (zdR _ _ _ _ e)) (fun b' hb'=>zdR _ _ _ _ (fun e=>(h.own o b s hι).1 (e ▸ hb'))) (fun _ h=>h) (fun b' hb'=>by rw[r4];exact h.rlt b' hb') h.rok hKR
     (fun q b1 s1 hq=>by rw[r4];exact h.own q b1 s1 hq) h.inj (fun q _=>by rw[hmkf];exact hstep q) ?_
    rw[hmkf];intro q ob hq
    rcases zhi hq with hq|⟨hq,hne⟩
    ·cases hq
     refine .row hι hRb hc1 hs (fun x hx=> ?_) (by rw[zacb,hc2];exact hc) ?_
     ·rcases zac1 hx with hx|rfl
      ·exact hes' x hx
      ·rw[ho2,hesz]
     ·intro i2 e2 hi2 j x hj;rw[zadh] at hi2;have inrow:∀(e2:AV),es[i2]? = some e2->∀(j:Nat) (x:AV),e2.cells[j]? = some x->¬(i2=i/\off<=j/\j<off+v.size)->
          x.cell=true/\∃q,c'[i2 * s+j]? = some q/\VA (w.setCells b (i * s+off) u.cells.toList) R ι (mark S.heap) x q:=by
       intro e2 hi2 j x hj hnot;obtain⟨k1,q,k2,k3⟩:=hcell i2 e2 hi2 j x hj;refine⟨k1,q,?_,k3.mono (fun _ h=>h) hKR fun p _=>hstep p⟩;rw[hc3,zabn,k2];rintro⟨g1,g2,g3⟩;have hjlt:j<s:=by
        have:=(zabB.1 hj).1;rw[AV.size_cells,hes' e2 (zabK hi2)] at this;exact this
       rw[hvl] at g2;have:i2=i:=by
        rcases zadR i2 i with hlt|heq|hgt
        ·have:(i2+1) * s<=i * s:=zab2 _ hlt;rw[zacq] at this;omega
        ·exact heq
        ·have:(i+1) * s<=i2 * s:=zab2 _ hgt;rw[zacq] at this;omega
       subst this;exact hnot ⟨rfl,by omega,by omega⟩
      by_cases hii:i=i2
      ·subst hii;rw[zabo rfl,zabo hilt] at hi2
       cases hi2
       rw[ho3 j] at hj
       by_cases hin:off<=j/\j<off+v.size
       ·rw[zabo hin] at hj;obtain⟨k1,q,k2,k3⟩:=hu2 _ _ hj;refine⟨k1,q,?_,k3.mono (fun _ h=>h) hKR fun p _=>hstep p⟩;rw[hc3,zabo ⟨by omega,by omega,by omega⟩,zaec];rw[show i * s+j - (i * s+off)=j - off by omega];exact k2
       ·rw[zabn hin] at hj;exact inrow e he j x hj (fun hh=>hin hh.2)
      ·rw[zabn hii] at hi2;exact inrow e2 hi2 j x hj (fun hh=>hii hh.1.symm)
    ·refine (h.heap q ob hq).mono (fun _ h=>h) hKR (fun b1 s1 hb1=>⟨hb1,?_,fun h=>h⟩) (fun h=>h) fun p _=>hstep p;exact zdR _ _ _ _ fun e=>hne (h.inj _ _ _ _ _ (e ▸ hb1) hι)
theorem Rel.store (h:Rel C S a w ι R) {o i off n:Nat} {t:TypeId} {v e e':AV} {es:List AV} {u:Value} (hes:look o S.heap=some (.row es)) (he:es[i]? = some e) (hov:zcM e off v=some e')
    (hv:VA w R ι (mark S.heap) v u) (hvt:zbR v=false) (hvn:v.size=n) (hsz:zaQ P t=some n) {p:Value} (hp:VA w R ι (mark S.heap) (.ref o i off) p):
    ∃w',(Instr.storeAt t p u).run P w= .ok () w'/\Rel C ⟨S.env,zP o (.row (es.set i e')) S.heap⟩ a w' ι R:=by
 obtain⟨b,s,rfl,hι,hu1,hthere,hone,hrel⟩:=h.storeW hes he hov hv hvt hp;have hst:=run_storeCells_cells (P:=P) b (i * s+off) u.cells.toList 0 w (fun j hj=>(hthere j hj).1) (fun j hj=>(hthere j hj).2) hone;refine⟨_,?_,hrel⟩;simp only[Instr.storeAt,Instr.sureAddr,storeVar,Sem.run_bind,Sem.run_pure,Result.andThen_ok,zet hsz,Sem.run_ite];simp only[ne_eq,hu1,hvn,zabD,if_false,Sem.run_pure,Result.andThen_ok];simpa using hst
theorem Rel.clear (h:Rel C S a w ι R) {o off len n:Nat} {t e ty:TypeId} {zv:Value} {es:List AV} (hes:look o S.heap=some (.row es)) (hl:off+len=es.length) (hsz:es.head?.map AV.size=some n)
    (ht:P.underlying t=some (.slice e)) (hz:∀w,(zeroValue e).run P w= .ok zv w) (hzc:zv.cells.size=n) (hn0:n≠0) (hz1:∀q∈zv.cells,q.oneCell'=true) {u:Value} (hp:VA w R ι (mark S.heap) (.osl o off len) u):
    ∃w',(Builtin.clear_ #[t] ty #[u]).run P w= .ok (.tuple #[]) w'/\Rel C ⟨S.env,zP o (.row (es.take off)) S.heap⟩ a w' ι R:=by
 have hob:=h.heap _ _ (zav hes)
 cases hob with
 | @row _ b s c T hι hRb hb hs hes' hc hcell=>
  obtain⟨e0,he0,hse⟩:∃e0,es.head? = some e0/\e0.size=n:=zabr.1 hsz;have hsn:s=n:=by rw[<- hes' e0 (List.mem_of_mem_head? he0)];exact hse
  subst hsn;obtain⟨zs,hzs⟩:∃zs,zs=(Builtin.zeroCells zv.cells len).toList:=⟨_,rfl⟩;have hzl:zs.length=len * s:=by rw[hzs];simp [Builtin.zeroCells,hzc]
  have hbound:off * s+len * s<=c.size:=by rw[<- zach,hl];exact hc
  have hone:∀v∈zs,v.oneCell'=true:=fun v hv=>by
   rw[hzs] at hv;unfold Builtin.zeroCells at hv;rw[zady,zaby] at hv;obtain⟨q,_,rfl⟩:=hv;have hq:q % zv.cells.size<zv.cells.size:=zacr _ (by omega);rw[getElem!_pos zv.cells (q % zv.cells.size) hq];exact hz1 _ (Array.getElem_mem hq)
  have hst:=run_storeCells_cells (P:=P) b (off * s) zs 0 w (fun j hj=>by rw[zcq hb];simp;omega) (fun j _=>frozen_of_row w b _ c T hb) hone;have hrun:(Builtin.clear_ #[t] ty #[u]).run P w= .ok (.tuple #[]) (w.setCells b (off * s) zs):=by
   have h0:len=0->zs=[]:=fun h0=>zacc.1 (by rw[hzl,h0,Nat.zero_mul])
   cases hp with
   | @osl0 _ _ ao=>
    rw[h0 rfl]
    cases ao<;>simp [Builtin.clear_,run_underlying ht,World.setCells]
   | osl hι' hmk hb' hlc hc' hL=>
    rw[hι] at hι';cases hι'
    cases len with
    | zero=>rw[h0 rfl];simp [Builtin.clear_,run_underlying ht,World.setCells]
    | succ m=>
     simp only[zacI] at hst;simp [Builtin.clear_,run_underlying ht,hz, <- hzs,hst]
  refine⟨_,hrun,?_⟩;obtain⟨c',hc1,hc2,hc3⟩:=zCL w b (off * s) zs hb;obtain⟨r1,r2,r3,r4⟩:=zCM w b (off * s) zs;have hKR:zbK R w (w.setCells b (off * s) zs):=fun b' hb'=>zdR _ _ _ _ (fun e=>hRb (e ▸ hb'));have hmkf:mark (zP o (Obj.row (es.take off)) S.heap)=mark S.heap:=funext fun q=>by
   by_cases e:q=o
   ·subst e;rw[zei];simp [mark,hes]
   ·exact zej e
  have hstep:∀q,Step w (w.setCells b (off * s) zs) ι ι (mark S.heap) (mark S.heap) q:=fun q=>by
   refine⟨fun _ _ h=>h,fun b1 s1 hq=> ?_,fun m h=>⟨m,h,zabR _⟩,fun m h=>⟨m,h,zabR _⟩⟩
   by_cases e:b1=b
   ·subst e;have hqo:q=o:=h.inj _ _ _ _ _ hq hι;subst hqo;have hm0:mark S.heap q=none:=by simp [mark,hes]
    rw[hm0];intro c1 T1 hc1';rw[hb] at hc1';cases hc1';exact⟨c',hc1,hc2,fun j hj=>by simp at hj⟩
   ·exact Blk.of_eq (zdR _ _ _ _ e)
  refine h.change r1 r2 r3 (by omega) (fun b' _=>by
      by_cases e:b'=b
      ·subst e;intro c1 T1 hc1';rw[hb] at hc1';cases hc1';exact⟨c',hc1,hc2,fun j hj=>by simp at hj⟩
      ·exact Blk.of_eq (zdR _ _ _ _ e)) (fun b' hb'=>zdR _ _ _ _ (fun e=>(h.own o b s hι).1 (e ▸ hb'))) (fun _ h=>h) (fun b' hb'=>by rw[r4];exact h.rlt b' hb') h.rok hKR
   (fun q b1 s1 hq=>by rw[r4];exact h.own q b1 s1 hq) h.inj (fun q _=>by rw[hmkf];exact hstep q) ?_
  rw[hmkf];intro q ob hq
  rcases zhi hq with hq|⟨hq,hne⟩
  ·cases hq
   refine .row hι hRb hc1 hs (fun x hx=>hes' x (zac8 hx)) ?_ fun i2 e2 hi2 j x hj=> ?_
   ·rw[hc2,zac9,Nat.min_eq_left (by omega)];exact zaca (zab2 _ (by omega)) hc
   ·rw[zaed] at hi2
    split at hi2
    ·rename_i hlt;obtain⟨k1,qv,k2,k3⟩:=hcell i2 e2 hi2 j x hj;refine⟨k1,qv,?_,k3.mono (fun _ h=>h) hKR fun p _=>hstep p⟩;rw[hc3,zabn,k2];rintro⟨g1,_,_⟩;have hjlt:j<s:=by
      have:=(zabB.1 hj).1;rw[AV.size_cells,hes' e2 (zabK hi2)] at this;exact this
     have:(i2+1) * s<=off * s:=zab2 _ hlt;rw[zacq] at this;omega
    ·cases hi2
  ·refine (h.heap q ob hq).mono (fun _ h=>h) hKR (fun b1 s1 hb1=>⟨hb1,?_,fun h=>h⟩) (fun h=>h) fun p _=>hstep p;exact zdR _ _ _ _ fun e=>hne (h.inj _ _ _ _ _ (e ▸ hb1) hι)
end Go.Sim

namespace Go.Sim
open Go (World Value Addr TypeId Act)
variable {P:Program} {C:Ctx} {S:St} {a:Act} {w:World} {ι:Inj} {R:Nat->Prop}
theorem Rel.newRow (h:Rel C S a w ι R) {o s:Nat} {es:List AV} {c:Array Value} (T:TypeId) (hu:zho o S) (hs:0<s) (hsz:∀e∈es,e.size=s) (hc:es.length * s<=c.size)
    (hr:∀e∈es,e.refs o=false)
    (hcell:∀(i:Nat) (e:AV),es[i]? = some e->∀(j:Nat) (x:AV),e.cells[j]? = some x->x.cell=true/\∃q,c[i * s+j]? = some q/\VA w R ι (mark S.heap) x q):
    Rel C ⟨S.env,zP o (.row es) S.heap⟩ a (w.alloc (.cells c T)) (upd ι o (w.heap.size,s)) R:=by
 refine h.new c T hu (.row zcQ (fun hR=> ?_) (heap_alloc_new w _) hs hsz hc fun i e hi j x hj=> ?_)
 ·have:=h.rlt _ hR;omega
 ·obtain⟨k1,q,k2,k3⟩:=hcell i e hi j x hj;refine⟨k1,q,k2,k3.mono (fun _ h=>h) (zbK.alloc h _) fun p hp=> ?_⟩;have hpo:p≠o:=fun e'=>by
   subst e';have h1:=AV.cells_refs hj hp;rw[hr e (zabK hi)] at h1;cases h1
  exact Step.other (zbp hpo) (zej hpo) fun b s hb=>zcU (h.own p b s hb).2
theorem Rel.newVar(h:Rel C S a w ι R){o:Nat}{x:AV}{u:Value}(T:TypeId)(hu:zho o S)(hv:VA w R ι (mark S.heap) x u)(hx:zbR x=false)(h0:x.size≠0)(hr:x.refs o=false):
    Rel C ⟨S.env,zP o (.row [x]) S.heap⟩ a (w.alloc (.cells u.cells T)) (upd ι o (w.heap.size,x.size)) R/\
    VA (w.alloc (.cells u.cells T)) R (upd ι o (w.heap.size,x.size)) (mark (zP o (.row [x]) S.heap)) (.ref o 0 0) (.pointer (some ⟨w.heap.size,0,none⟩)):=by
 obtain⟨k1,k2⟩:=hv.cells hx;refine⟨h.newRow T hu (by omega) (by simp) (by simp [k1]) (by simpa using hr) ?_,?_⟩
 ·intro i e hi j y hj
  match i,hi with
  | 0,hi=>
   simp at hi;subst hi;obtain⟨k3,q,k4,k5⟩:=k2 j y hj;exact⟨k3,q,by simpa using k4,k5⟩
  | n+1,hi=>simp at hi
 ·have:=VA.ref (w:=w.alloc (.cells u.cells T)) (R:=R) (ι:=upd ι o (w.heap.size,x.size)) (mk:=mark (zP o (.row [x]) S.heap)) (o:=o) (i:=0) (off:=0) (b:=w.heap.size) (s:=x.size) zcQ (by rw[zei]);simpa using this
def clr(ι:Inj)(o:Nat):Inj:=fun q=>if q=o then none else ι q
theorem zq8{o:Nat}:clr ι o o=none:=by simp [clr]
theorem zjT{o q:Nat}(h:q≠o):clr ι o q=ι q:=by simp [clr,h]
theorem Rel.newNone(h:Rel C S a w ι R){o n:Nat}(hu:zho o S):Rel C ⟨S.env,zP o (.acc n) S.heap⟩ a w (clr ι o) R:=by
 have hst:∀p,p≠o->Step w w ι (clr ι o) (mark S.heap) (mark (zP o (.acc n) S.heap)) p:=fun p hp=>Step.other (zjT hp) (zej hp) fun _ _ _=>rfl;refine h.change rfl rfl rfl (zabR _) (fun _ _=>Blk.of_eq rfl) (fun _ _=>rfl) (fun _ h=>h) h.rlt h.rok (fun _ _=>rfl) ?_ ?_ ?_ ?_
 ·intro q b s hq
  by_cases e:q=o
  ·subst e;rw[zq8] at hq;cases hq
  ·rw[zjT e] at hq;exact h.own q b s hq
 ·intro q q' b s s' h1 h2
  by_cases e:q=o
  ·subst e;rw[zq8] at h1;cases h1
  ·by_cases e':q'=o
   ·subst e';rw[zq8] at h2;cases h2
   ·rw[zjT e] at h1;rw[zjT e'] at h2;exact h.inj _ _ _ _ _ h1 h2
 ·intro p hp;refine hst p fun e=> ?_;subst e;rw[hu.1] at hp;cases hp
 ·intro q ob hq
  rcases zhi hq with hq|⟨hq1,hne⟩
  ·cases hq;exact .accN zq8
  ·refine (h.heap q ob hq1).mono (fun _ h=>h) (fun _ _=>rfl) (fun b s hb=>⟨by rw[zjT hne,hb],rfl,fun h=>h⟩) (fun h0=>by rw[zjT hne,h0]) fun p hp=> ?_;refine hst p fun e=> ?_;subst e;have:=zhd (l:=S.heap) hq1 hu.2;rw[hp] at this;cases this
theorem zmy{mk:Nat->Option Nat}{x:AV}{k:Int}{u:Value}(h:VA w R ι mk x u)(hx:zbQ x=some k):∃kd,u= .int kd k:=by
 cases x with
 | d y=>cases y with
  | int kd n=>simp only[zbQ,Option.some.injEq] at hx;subst hx;exact⟨kd,h.int_inv.1⟩
  | _=>simp [zbQ] at hx
 | _=>simp [zbQ] at hx
theorem zCN{mk:Nat->Option Nat}{x:AV}{k:Int}{u:Value}{y:Nat}{code:BoundsCode}(h:VA w R ι mk x u)(hx:zbQ x=some k)(h0:0<=k)(hy:k<=y)(w':World):
    (Instr.sliceBound u y code).run P w'= .ok k.toNat w':=by
 obtain⟨kd,rfl⟩:=zmy h hx;simp [Instr.sliceBound,asIntOf,h0,hy]
def VAo(w:World)(R:Nat->Prop)(ι:Inj)(mk:Nat->Option Nat):Option AV->Option Value->Prop
 | none,none=>True
 | some x,some u=>VA w R ι mk x u
 | _,_=>False
theorem ziy{x:Option AV}{d y k:Nat}(h:zcl x d y=some k):(x=none/\k=d)\/∃v i,x=some v/\zbQ v=some i/\0<=i/\i<=y/\k=i.toNat:=by
 cases x with
 | none=>simp only[zcl,Option.some.injEq] at h;exact .inl ⟨rfl,h.symm⟩
 | some v=>
  simp only[zcl] at h;obtain⟨i,h1,h2⟩:=zabp.1 h
  split at h2
  ·rename_i h3;cases h2;exact .inr ⟨v,i,rfl,h1,h3.1,h3.2,rfl⟩
  ·cases h2
theorem ztC {mk:Nat->Option Nat} {lo hi mx:Option AV} {ulo uhi umx:Option Value} {len cap l h:Nat} (hlo:VAo w R ι mk lo ulo) (hhi:VAo w R ι mk hi uhi) (hmx:VAo w R ι mk mx umx)
    (hb1:zcl hi len len=some h) (hb2:zcl lo 0 h=some l) (hlc:len<=cap) (hm:∀m,mx=some m->zbQ m=some (h:Int)/\hi≠none) (isSlice:Bool) (w':World):
    h<=len/\l<=h/\(Instr.sliceBounds isSlice len cap ulo uhi umx).run P w'= .ok (l,h,if mx=none then cap else h) w':=by
 have e1:h<=len:=by
  rcases ziy hb1 with ⟨_,rfl⟩|⟨v,i,_,_,h1,h2,rfl⟩<;>omega
 have e2:l<=h:=by
  rcases ziy hb2 with ⟨_,rfl⟩|⟨v,i,_,_,h1,h2,rfl⟩<;>omega
 refine⟨e1,e2,?_⟩;have fM:∀m u,mx=some m->umx=some u->∀code,(Instr.sliceBound u cap code).run P w'= .ok h w':=fun m u h1 h2 code=>by
  subst h1 h2;have:=hm m rfl;have:=zCN (P:=P) (code:=code) (y:=cap) hmx this.1 (by omega) (by omega) w';simpa using this
 have fH:∀v u (y:Nat),hi=some v->uhi=some u->h<=y->∀code,(Instr.sliceBound u y code).run P w'= .ok h w':=fun v u y h1 h2 h3 code=>by
  subst h1 h2
  rcases ziy hb1 with ⟨h4,_⟩|⟨v',i,h4,h5,h6,h7,rfl⟩
  ·cases h4
  ·cases h4
   exact zCN (P:=P) (code:=code) (y:=y) hhi h5 h6 (by omega) w'
 have fL:∀v u,lo=some v->ulo=some u->∀code,(Instr.sliceBound u h code).run P w'= .ok l w':=fun v u h1 h2 code=>by
  subst h1 h2
  rcases ziy hb2 with ⟨h4,_⟩|⟨v',i,h4,h5,h6,h7,rfl⟩
  ·cases h4
  ·cases h4
   exact zCN (P:=P) (code:=code) (y:=h) hlo h5 h6 (by omega) w'
 have zH:hi=none->h=len:=fun e=>by rcases ziy hb1 with ⟨_,h⟩|⟨v,_,h,_⟩;exact h;rw[e] at h;cases h
 have zL:lo=none->l=0:=fun e=>by rcases ziy hb2 with ⟨_,h⟩|⟨v,_,h,_⟩;exact h;rw[e] at h;cases h
 cases mx with
 | none=>
  cases umx with
  | some _=>exact hmx.elim
  | none=>
   cases hi with
   | none=>
    cases uhi with
    | some _=>exact hhi.elim
    | none=>
     have:=zH rfl;subst this
     cases lo with
     | none=>cases ulo with
      | some _=>exact hlo.elim
      | none=>have:=zL rfl;subst this;simp [Instr.sliceBounds]
     | some v=>cases ulo with
      | none=>exact hlo.elim
      | some u=>simp [Instr.sliceBounds,fL v u rfl rfl]
   | some v1=>
    cases uhi with
    | none=>exact hhi.elim
    | some u1=>
     have f1:=fH v1 u1 cap rfl rfl (by omega)
     cases lo with
     | none=>cases ulo with
      | some _=>exact hlo.elim
      | none=>have:=zL rfl;subst this;simp [Instr.sliceBounds,f1]
     | some v=>cases ulo with
      | none=>exact hlo.elim
      | some u=>simp [Instr.sliceBounds,f1,fL v u rfl rfl]
 | some m=>
  cases umx with
  | none=>exact hmx.elim
  | some um=>
   have f0:=fM m um rfl rfl
   cases hi with
   | none=>exact absurd rfl (hm m rfl).2
   | some v1=>
    cases uhi with
    | none=>exact hhi.elim
    | some u1=>
     have f1:=fH v1 u1 h rfl rfl (zabR _)
     cases lo with
     | none=>cases ulo with
      | some _=>exact hlo.elim
      | none=>have:=zL rfl;subst this;simp [Instr.sliceBounds,f0,f1]
     | some v=>cases ulo with
      | none=>exact hlo.elim
      | some u=>simp [Instr.sliceBounds,f0,f1,fL v u rfl rfl]
end Go.Sim
