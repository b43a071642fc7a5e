/-
  The law WitnessReplays.
-/
import Derived.Test.YtcembpbhkcbnhaaGreatB3e4d643
import Derived.Carry
import Derived.OpenShut
import Derived.ChangeSlices
import Derived.ChangeArms
import Derived.WideShapes
import Derived.Test.YtcembpbhkcbnhaaGreatB6f49cc6
import Derived.Test.YtcembpbhkcbnhaaGreatB9944286
import Derived.Test.YtcembpbhkcbnhaaGreatB8a69ba1
set_option linter.unusedSimpArgs false
set_option linter.unusedVariables false
set_option maxHeartbeats 10000000
set_option maxRecDepth 100000
namespace Go.Sim
open Go.ChangeShapes Go.WideShapes Go.RowKit
variable {P:Program} {G:FuncId->Option AFn}
theorem zTH (hG:GOK P G) {f:FuncId} {ds:List D} {r:D} (h:zi G f (ds.map .d) []=some (.d r,[])) {w:World} {us:List Value} (hl:us.length=ds.length)
    (hv:∀(i:Nat) (x:D) (u:Value),ds[i]? = some x->us[i]? = some u->Rd w (fun b=>b<w.heap.size) (.v x u)):
    Calls P f us.toArray w fun e w'=>∃u,e= .returned u/\Below w.heap.size w w'/\∃R',Rd w' R' (.v r u):=by
 have h1:=(zSJ hG f (ds.map .d) [] (.d r) [] h (by simp) (by simp)).2.1;refine (h1 w (fun b=>b<w.heap.size) (fun _=>none) us (fun b hb=>hb) (by simp) (by simp) (by simp) ⟨by simpa using hl,fun i x u hx hu=> ?_⟩).mono fun e w' h=> ?_
 ·rw[zabI] at hx;obtain⟨d,hd,rfl⟩:=zabr.1 hx;exact .d (hv i d u hd hu)
 ·obtain⟨u,ι',R',h1,h2,h3,h4,h5,_,h6,_,_,_,_,_,_,h7⟩:=h;refine⟨u,h1,⟨h2,h3,h4,h5,fun k hk=>h6 k hk (by simp)⟩,R',?_⟩
  cases h7 with
  | d h7=>exact h7
section
variable {H:Type} {enc:TypeId×Value->H}
theorem zQ7(hl:laidOutB P=true){W W':World}(hb:Below W.heap.size W W'):∀ {ts:List TypeId} {vs:List Value} {ds:List (DataW H)} {ps:List MemPlace},
    (∀t∈ts,P.readableRec t=true/\t<P.types.size)->DataW.TrodAll enc P W 0 (fun _=>true) true ts vs ds ps->(∀x∈ps,x.block<W.heap.size)->DataW.TrodAll enc P W' 0 (fun b=>decide (b<W.heap.size)) true ts vs ds ps
 | [],[],[],_,_,h,_=>h
 | _::_,_::_,_::_,_,ht,⟨p,q,h1,h2,e⟩,hlt=>
  ⟨p,q,Below.trod hl (ht _ (.head _)).1 (ht _ (.head _)).2 h1 hb (fun x hx=>hlt x (by rw[e];exact zacM _ hx)),
   zQ7 hl hb (fun t h=>ht t (.tail _ h)) h2 (fun x hx=>hlt x (by rw[e];exact zadn _ hx)),e⟩
theorem z5e {f:Func} {s:ChangeSpec} {W W':World} {args:Array Value} {ds gs:List (DataW H)} {before:List MemPlace} {tb:TypeId} (hres:f.resultTypes= #[tb]) (htb:P.underlying tb=some .bool) (hl:laidOutB P=true)
    (ht:∀t∈f.params.toList,P.readableRec t=true/\t<P.types.size) (hW:DataW.Whole enc P f.params.toList s.vars false W args.toList ds gs before) (hv:s.vars=[])
    (hs:s.fn H (ds++gs)={ results:=[.lit (.bool true)],args:=ds }) (hb:Below W.heap.size W W'):s.post enc P f false true false false W args (.bool true) W':=by
 have hlt:∀x∈before,x.block<W.heap.size:=fun x hx=>by simpa using hW.lt x hx
 obtain⟨p,q,hA,hV,e,hfz,hnd⟩:=hW;have hV0:=hV;rw[hv] at hV0;obtain⟨rfl,rfl⟩:=trodVars_none hV0;refine⟨ds,[],before,[],p,[],⟨p,[],hA,hV,e,hfz,hnd⟩,?_,?_,?_,hb.frame _,fun h=>by cases h⟩
 ·rw[hs,hres];exact trodAll_mk1 (shut_bool htb _)
 ·rw[hs];exact zQ7 hl hb ht hA (fun x hx=>hlt x (by rw[e];exact zacM _ hx))
 ·rw[hs,hv];rfl
end
theorem zRl{k:IntKind}{n:Int}(h:(Lit.int k n).wf=true):k.has n:=by
 simp only[Lit.wf,zabH,decide_eq_true_eq] at h;simp [IntKind.has,h]
end Go.Sim

namespace Go.Sim
open Go.ChangeShapes Go.WideShapes Go.RowKit
variable {P:Program}
inductive Sh where
 | int (k:IntKind)
 | bool
 | str
 | sl (s:Sh)
 | agg (fs:List Sh)
 deriving Inhabited
mutual
def Sh.size:Sh->Nat
 | .agg fs=>Sh.sizeL fs
 | _=>1
def Sh.sizeL:List Sh->Nat
 | []=>0
 | s::l=>s.size+Sh.sizeL l
end
def BIG:Nat:=1048576
mutual
def Sh.has:Sh->D->Prop
 | .int k,.int k' n=>k'=k/\k.has n
 | .bool,.bool _=>True
 | .str,.str s=>s.length<=BIG
 | .sl s,.sl es=>es.length<=BIG/\∀e∈es,Sh.has s e
 | .agg fs,.agg cs=>Sh.hasL fs cs
 | _,_=>False
def Sh.hasL:List Sh->List D->Prop
 | [],cs=>cs=[]
 | s::l,cs=>∃x r,Sh.has s x/\cs=x.cells++r/\Sh.hasL l r
end
def znL(P:Program)(F:TypeId->Option Sh):Nat->List Field->Option (List Sh)
 | _,[]=>some []
 | off,f::fs=>
  match F f.type with
  | some s=>if f.offset=off/\P.cellsOf f.type=s.size then (znL P F (off+s.size) fs).map (s:: ·) else none
  | none=>none
def zli(P:Program):Nat->TypeId->Option Sh
 | 0,_=>none
 | n+1,t=>
  match P.underlying t with
  | some .bool=>some .bool
  | some (.int k)=>some (.int k)
  | some .string=>some .str
  | some (.slice e)=>match zli P n e with|some s=>if P.cellsOf e=s.size/\0<s.size then some (.sl s) else none|none=>none
  | some (.struct fs)=>match znL P (zli P n) 0 fs.toList with|some l=>if P.cellsOf t=Sh.sizeL l then some (.agg l) else none|none=>none
  | _=>none
structure zhp{H:Type}(B:DataW H->Nat)(Bs:List (DataW H)->Nat):Prop where
 sl:∀es sp,B (.slice es sp)=Bs es+Bs sp+1
 agg:∀ps,B (.agg ps)=Bs ps+1
 str:∀s,B (.lit (.string s))=s.length+1
 nil:Bs []=0
 cons:∀d r,Bs (d::r)=B d+Bs r
 pos:∀d,1<=B d
theorem zhp.len{H:Type}{B:DataW H->Nat}{Bs:List (DataW H)->Nat}(b:zhp B Bs):∀l:List (DataW H),l.length<=Bs l:=by
 intro l
 induction l with
 | nil=>simp
 | cons d r ih=>rw[b.cons,zabu];have:=b.pos d;omega
theorem zhp.mem{H:Type}{B:DataW H->Nat}{Bs:List (DataW H)->Nat}(b:zhp B Bs){d:DataW H}:∀ {l:List (DataW H)},d∈l->B d<=Bs l:=by
 intro l
 induction l with
 | nil=>intro h;cases h
 | cons e r ih=>
  intro h;rw[b.cons]
  cases h with
  | head=>omega
  | tail _ h=>have:=ih h;omega
theorem zSU{n:Nat}{Q:Nat->D->Prop}(h:∀i,i<n->∃x,Q i x):∃es:List D,es.length=n/\∀i e,es[i]? = some e->Q i e:=by
 induction n with
 | zero=>exact⟨[],rfl,fun i e he=>by simp at he⟩
 | succ n ih=>
  obtain⟨es,hl,hq⟩:=ih fun i hi=>h i (by omega);obtain⟨x,hx⟩:=h n (by omega);refine⟨es++[x],by simp [hl],fun i e he=> ?_⟩
  by_cases hi:i<es.length
  ·rw[zacN hi] at he;exact hq i e he
  ·rw[zacE (by omega)] at he
   by_cases hi2:i - es.length=0
   ·rw[hi2] at he;simp at he;subst he;rw[show i=n by omega];exact hx
   ·rw[zadl (by simp;omega)] at he;cases he
theorem Sh.has_notup{s:Sh}{x:D}(h:Sh.has s x):∀vs,x≠ .tup vs:=by
 intro vs e;subst e
 cases s<;>simp [Sh.has] at h
variable {H:Type} {enc:TypeId×Value->H} {w:World} {spare:Nat->Bool} {held:Bool} {B:DataW H->Nat} {Bs:List (DataW H)->Nat}
def ztY(w:World)(r:List D)(cs:List Value):Prop:=r.length=cs.length/\∀(i:Nat) (c:D) (u:Value),r[i]? = some c->cs[i]? = some u->c.cell=true/\Rd w (fun b=>b<w.heap.size) (.v c u)
theorem zVP (hB:zhp B Bs) {F:TypeId->Option Sh} {n:Nat} {cs:List Value}
    (ih:∀t cs d ps sh,DataW.trod enc P w 0 spare held n t cs=some (d,ps)->F t=some sh->B d<=BIG->∃x,Sh.has sh x/\x.size=sh.size/\ztY w x.cells cs):
    ∀(fs:List Field) (off:Nat) (shs:List Sh) (xs:List (DataW H×List MemPlace)),znL P F off fs=some shs->xs.length=fs.length->Bs (xs.map (·.1))<=BIG->
     (∀(i:Nat) (f:Field),fs[i]? = some f->DataW.trod enc P w 0 spare held n f.type ((cs.drop f.offset).take (P.cellsOf f.type))=xs[i]?)->off+Sh.sizeL shs<=cs.length->
     ∃r:List D,Sh.hasL shs r/\r.length=Sh.sizeL shs/\∀(j:Nat) (c:D) (u:Value),r[j]? = some c->cs[off+j]? = some u->c.cell=true/\Rd w (fun b=>b<w.heap.size) (.v c u):=by
 intro fs
 induction fs with
 | nil=>
  intro off shs xs h1 _ _ _ _;simp only[znL,Option.some.injEq] at h1;subst h1;exact⟨[],rfl,rfl,fun j c u h=>by simp at h⟩
 | cons f fs ihf=>
  intro off shs xs h1 h2 h3 h4 h5;simp only[znL] at h1
  split at h1
  ·rename_i s hs
   split at h1
   ·rename_i hc;obtain⟨shs',h6,rfl⟩:=zabr.1 h1
    cases xs with
    | nil=>simp at h2
    | cons y ys=>
     obtain⟨d,ps⟩:=y;simp only[zabs,hB.cons] at h3;simp only[Sh.sizeL] at h5;have hf:=h4 0 f rfl;simp only[zadG] at hf;obtain⟨x,hx1,hx2,hx3,hx4⟩:=ih f.type _ d ps s hf hs (by omega);obtain⟨r,hr1,hr2,hr3⟩:=ihf (off+s.size) shs' ys h6 (by simpa using h2) (by omega) (fun i g hg=>by simpa using h4 (i+1) g (by simpa using hg)) (by omega);have hxl:x.cells.length=s.size:=hx2;refine⟨x.cells++r,⟨x,r,hx1,rfl,hr1⟩,by rw[zabv,hr2,hxl];rfl,fun j c u hj hu=> ?_⟩
     by_cases hlt:j<s.size
     ·rw[zacN (by omega)] at hj;refine hx4 j c u hj ?_;rw[hc.1,hc.2,zaed,zabo hlt,zado];exact hu
     ·rw[zacE (by omega),hxl] at hj;exact hr3 (j - s.size) c u hj (by rw[show off+s.size+(j - s.size)=off+j by omega];exact hu)
   ·cases h1
  ·cases h1
theorem z4C(hB:zhp B Bs):∀(n:Nat) (m:Nat) (t:TypeId) (cs:List Value) (d:DataW H) (ps:List MemPlace) (sh:Sh),DataW.trod enc P w 0 spare held n t cs=some (d,ps)->zli P m t=some sh->B d<=BIG->
    ∃x,Sh.has sh x/\x.size=sh.size/\ztY w x.cells cs:=by
 intro n
 induction n using Nat.strongRecOn with
 | ind n ih=>
  intro m t cs d ps sh h hsh hb
  cases m with
  | zero=>cases hsh
  | succ m=>
   simp only[zli] at hsh
   split at hsh
   ·rename_i ht
    cases hsh
    obtain⟨b,rfl,hx⟩:=DataW.trod_bool ht h;exact⟨.bool b,trivial,rfl,rfl,fun i c u hc hu=>by
     cases i with
     | zero=>simp [D.cells] at hc hu;subst hc;subst hu;exact⟨rfl,.bool⟩
     | succ i=>simp [D.cells] at hc⟩
   ·rename_i k ht
    cases hsh
    obtain⟨z,rfl,hx,hw⟩:=DataW.trod_int ht h;exact⟨.int k z,⟨rfl,zRl hw⟩,rfl,rfl,fun i c u hc hu=>by
     cases i with
     | zero=>simp [D.cells] at hc hu;subst hc;subst hu;exact⟨rfl,.int (zRl hw)⟩
     | succ i=>simp [D.cells] at hc⟩
   ·rename_i ht
    cases hsh
    obtain⟨s,rfl,hx,_⟩:=DataW.trod_string ht h;simp only[Prod.mk.injEq] at hx;obtain⟨rfl, -⟩:=hx;rw[hB.str] at hb;have hs:s.data.toList.length<=BIG:=by omega
    refine⟨.str s.data.toList,hs,rfl,rfl,fun i c u hc hu=> ?_⟩
    cases i with
    | zero=>
     simp [D.cells] at hc hu;subst hc;subst hu;have:=Rd.str (w:=w) (R:=fun b=>b<w.heap.size) (s:=s.data.toList) (zaca hs (by simp [BIG,LIM]));simp only[Array.toArray_toList] at this;exact⟨rfl,this⟩
    | succ i=>simp [D.cells] at hc
   ·rename_i e ht
    split at hsh
    ·rename_i s hse
     split at hsh
     ·rename_i hc
      cases hsh
      rcases DataW.trod_slice ht h with ⟨rfl,hx⟩|⟨a,len,cap,elems,rest,n',rfl,rfl,hx,hbase,hl,hm,hlen,hel,hsp,hns⟩
      ·exact⟨.sl [],⟨by simp,by simp⟩,rfl,rfl,fun i c u hc hu=>by
          cases i with
          | zero=>simp [D.cells] at hc hu;subst hc;subst hu;exact⟨rfl,.sl0⟩
          | succ i=>simp [D.cells] at hc⟩
      ·simp only[Prod.mk.injEq] at hx;obtain⟨rfl, -⟩:=hx;rw[hB.sl] at hb;have hlb:=hB.len (elems.map (·.1));rw[zabE,hlen] at hlb;have each:∀i,i<len->∃x,Sh.has s x/\x.size=s.size/\∃cs',w.cells? 0 (a.add (i * P.cellsOf e)) (P.cellsOf e)=some cs'/\ztY w x.cells cs':=by
        intro i hi;have h1:=hel i hi;rw[zabx (by omega)] at h1;obtain⟨cs',h2,h3⟩:=zabp.1 h1;obtain⟨x,hx1,hx2,hx3⟩:=ih n' (by omega) m e cs' (elems[i]'(by omega)).1 (elems[i]'(by omega)).2 s h3 hse (by
         have:=hB.mem (d:=(elems[i]'(by omega)).1) (l:=elems.map (·.1)) (zadw (zabC _));omega)
        exact⟨x,hx1,hx2,cs',h2,hx3⟩
       obtain⟨es,hes1,hes2⟩:=zSU each;have hall:∀x∈es,Sh.has s x/\x.size=s.size:=fun x hx=>by
        obtain⟨i,hi⟩:=zab6 hx;exact⟨(hes2 i x hi).1,(hes2 i x hi).2.1⟩
       refine⟨.sl es,⟨by omega,fun x hx=>(hall x hx).1⟩,rfl,rfl,fun i c u hcc hu=> ?_⟩
       cases i with
       | succ i=>simp [D.cells] at hcc
       | zero=>
        simp [D.cells] at hcc hu;subst hcc;subst hu;refine⟨rfl,?_⟩;subst hes1
        by_cases h0:es=[]
        ·subst h0;exact .sl0
        ·have hpos:=zac0.2 h0;have hce:P.cellsOf e=s.size:=hc.1;obtain⟨_,_,cs0,hcs0,_⟩:=hes2 0 es[0] (zabx hpos);have hc0:=(World.cells?_some hcs0).2.2 0 (by omega);have hl0:=(World.cells?_some hcs0).2.1;rw[zabx (by omega)] at hc0;obtain⟨b,off,spot⟩:=a;have hspot:spot=none:=by
          have:=World.cell?_spot hc0;unfold Addr.add at this;revert this
          split<;>(try split)<;>simp_all
         subst hspot;have hlt:b<w.heap.size:=World.block_lt_of_cell? w _ (by simpa [add_plain] using hc0);refine .sl (s:=s.size) hlt h0 hc.2 (by simp only[LIM,BIG] at *; omega) hl (fun x hx=>(hall x hx).2) fun i x hx=> ?_;obtain⟨hx1,hx2,cs',hcs',hx3,hx4⟩:=hes2 i x hx;obtain⟨_,hl',hcell'⟩:=World.cells?_some hcs';refine Rd.el_of_cells (Sh.has_notup hx1) fun j c hj=> ?_;have hjl:j<s.size:=by
          have h1:=(zabB.1 hj).1;have h2:x.cells.length=s.size:=hx2;omega
         have hu:cs'[j]? = some (cs'[j]'(by omega)):=zabx (by omega);obtain⟨k1,k2⟩:=hx4 j c _ hj hu;refine⟨k1,_,?_,k2⟩;have:=hcell' j (by omega);rw[add_plain,add_plain,hu,hce] at this;exact this
     ·cases hsh
    ·cases hsh
   ·rename_i fs ht
    split at hsh
    ·rename_i l hl
     split at hsh
     ·rename_i hc
      cases hsh
      obtain⟨xs,n',rfl,hx,hcl,hxl,hf⟩:=DataW.trod_struct ht h;simp only[Prod.mk.injEq] at hx;obtain⟨rfl, -⟩:=hx;rw[hB.agg] at hb;obtain⟨r,hr1,hr2,hr3⟩:=zVP (cs:=cs) hB (fun t cs d ps sh h1 h2 h3=>ih n' (by omega) m t cs d ps sh h1 h2 h3) fs.toList 0 l xs hl (by simpa using hxl) (by omega) (fun i f hi=>hf i f (by simpa using hi)) (by omega);exact⟨.agg r,hr1,hr2,by rw[show D.cells (.agg r)=r from rfl];omega,fun i c u hc hu=>hr3 i c u hc (by simpa using hu)⟩
     ·cases hsh
    ·cases hsh
   ·cases hsh
theorem z4D (hB:zhp B Bs) {m:Nat} {base:Nat} {t:TypeId} {v:Value} {d:DataW H} {ps:List MemPlace} {sh:Sh} (h:DataW.Trod enc P w 0 spare held t v d ps) (hsh:zli P m t=some sh) (hb:B d<=BIG)
    (hv:Value.okWide P w .any base t v):∃x,Sh.has sh x/\Rd w (fun b=>b<w.heap.size) (.v x v):=by
 obtain⟨fuel,hf⟩:=h;obtain⟨x,h1,h2,h3,h4⟩:=z4C hB fuel m t _ d ps sh hf hsh hb;refine⟨x,h1,?_⟩
 cases m with
 | zero=>cases hsh
 | succ m=>
  have one:∀u:Value,v=u->u.cells.toList=[u]->x.cell=true->Rd w (fun b=>b<w.heap.size) (.v x v):=by
   intro u e1 e2 e3;subst e1;exact (h4 0 x v (by rw[D.cells_cell e3];rfl) (by rw[e2];rfl)).2
  simp only[zli] at hsh
  split at hsh
  ·rename_i ht
   cases hsh
   obtain⟨b,hv⟩:=okWide_bool ht hv
   cases x<;>simp [Sh.has] at h1
   exact one _ hv rfl rfl
  ·rename_i k ht
   cases hsh
   obtain⟨b,hv⟩:=okWide_int ht hv
   cases x<;>simp [Sh.has] at h1
   exact one _ hv rfl rfl
  ·rename_i ht
   cases hsh
   obtain⟨b,hv⟩:=okWide_string ht hv
   cases x<;>simp [Sh.has] at h1
   exact one _ hv rfl rfl
  ·rename_i e ht;obtain⟨a,len,cap,hv⟩:=okWide_slice ht hv
   split at hsh
   ·split at hsh
    ·cases hsh
     cases x<;>simp [Sh.has] at h1
     exact one _ hv rfl rfl
    ·cases hsh
   ·cases hsh
  ·rename_i fs ht;obtain⟨cs,rfl,_⟩:=okWide_struct ht hv
   split at hsh
   ·split at hsh
    ·cases hsh
     cases x<;>simp [Sh.has] at h1
     rename_i cells;have:=Rd.agg (w:=w) (R:=fun b=>b<w.heap.size) (cs:=cells) (vs:=cs.toList) (by simpa [D.cells,Value.cells] using h3.symm) (fun c hc=>by
      obtain⟨i,hi⟩:=zab6 hc;have hlt:=(zabB.1 hi).1;have hlen:cells.length=cs.toList.length:=by simpa [D.cells,Value.cells] using h3
      exact (h4 i c (cs.toList[i]'(by omega)) hi (by simp [Value.cells])).1) (fun i c u hc hu=>(h4 i c u hc (by simpa [Value.cells] using hu)).2)
     simpa using this
    ·cases hsh
   ·cases hsh
  ·cases hsh
end Go.Sim

namespace Go.Proofs.YtcembpbhkcbnhaaGreat
open Go Go.Sim
theorem zVn{α:Type}{f:α->D}{s:Sh}{x:D}(h:Sh.has (.sl s) x)(hs:∀e,Sh.has s e->∃a,e=f a):∃l:List α,x= .sl (l.map f)/\l.length<=BIG:=by
 cases x<;>simp only[Sh.has] at h
 rename_i es;obtain⟨h1,h2⟩:=h;have:∃l:List α,es=l.map f:=by
  clear h1
  induction es with
  | nil=>exact⟨[],rfl⟩
  | cons e es ih=>
   obtain⟨a,rfl⟩:=hs e (h2 e (by simp));obtain⟨l,rfl⟩:=ih fun e he=>h2 e (by simp [he]);exact⟨a::l,rfl⟩
 obtain⟨l,rfl⟩:=this;exact⟨l,rfl,by simpa using h1⟩
theorem zVl{k:IntKind}{x:D}(h:Sh.has (.int k) x):∃n:Int,x= .int k n/\k.has n:=by
 cases x<;>simp only[Sh.has] at h
 obtain⟨rfl,h⟩:=h;exact⟨_,rfl,h⟩
theorem zVm{x:D}(h:Sh.has (.sl (.int .i64)) x):∃l:List Int,x= .sl (zC l)/\l.length<=BIG:=zVn h fun e he=>by obtain⟨n,rfl,_⟩:=zVl he;exact⟨n,rfl⟩
theorem zaeU{k:IntKind}{s:List Sh}{cs:List D}(h:Sh.hasL (.int k::s) cs):∃(n:Int) (r:List D),cs= .int k n::r/\k.has n/\Sh.hasL s r:=by
 simp only[Sh.hasL] at h;obtain⟨x,r,h1,rfl,h2⟩:=h;obtain⟨n,rfl,hn⟩:=zVl h1;exact⟨n,r,rfl,hn,h2⟩
theorem zajU{x:D}(h:Sh.has (.agg [.int .i64,.int .i64,.int .i64,.int .i64,.int .i64,.int .i64,.int .i64,.int .i64]) x):∃s:Setup,x=zaJ s:=by
 cases x<;>simp only[Sh.has] at h
 obtain⟨a1,r1,rfl,_,h⟩:=zaeU h;obtain⟨a2,r2,rfl,_,h⟩:=zaeU h;obtain⟨a3,r3,rfl,_,h⟩:=zaeU h;obtain⟨a4,r4,rfl,_,h⟩:=zaeU h;obtain⟨a5,r5,rfl,_,h⟩:=zaeU h;obtain⟨a6,r6,rfl,_,h⟩:=zaeU h;obtain⟨a7,r7,rfl,_,h⟩:=zaeU h;obtain⟨a8,r8,rfl,_,h⟩:=zaeU h;simp only[Sh.hasL] at h;subst h;exact⟨⟨a1,a2,a3,a4,a5,a6,a7,a8⟩,rfl⟩
abbrev shI:Sh:= .int .i64
theorem zaif{s:List Sh}{x:D}(h:Sh.has (.agg s) x):∃cs,x= .agg cs/\Sh.hasL s cs:=by
 cases x<;>simp only[Sh.has] at h
 exact⟨_,rfl,h⟩
theorem zajT{cs:List D}(h:Sh.hasL [] cs):cs=[]:=by cases cs with|nil=>rfl|cons a l=>simp [Sh.hasL] at h
abbrev zai8:Sh:= .agg [shI,shI,shI,shI]
abbrev zai7:Sh:= .agg [shI,shI,shI,shI,shI,shI,shI,.sl zai8,shI,shI]
theorem zaiC{n:Int}(h:IntKind.i64.has n): -9223372036854775808<=n/\n<=9223372036854775807:=by
 have h1:=h;simp only[IntKind.has,IntKind.min,IntKind.max,IntKind.signed,IntKind.bits] at h1;simp at h1;omega
structure EvR(e:Event):Prop where
 len:e.l.length<=BIG
 ep: -9223372036854775808<=e.epoch/\e.epoch<=9223372036854775807
 gs:∀g∈e.l, -9223372036854775808<=g.gen/\g.gen<=9223372036854775807
theorem zajS{x:D}(h:Sh.has zai8 x):∃m:{ g:Grant // -9223372036854775808<=g.gen/\g.gen<=9223372036854775807 },x=zbt m.1:=by
 obtain⟨cs,rfl,h0⟩:=zaif h;clear h;have h:=h0;clear h0;obtain⟨a1,r1,rfl,_,h⟩:=zaeU h;obtain⟨a2,r2,rfl,k2,h⟩:=zaeU h;obtain⟨a3,r3,rfl,_,h⟩:=zaeU h;obtain⟨a4,r4,rfl,_,h⟩:=zaeU h;obtain rfl:=zajT h;exact⟨⟨⟨a1,a2,a3,a4⟩,zaiC k2⟩,rfl⟩
theorem zajQ{x:D}(h:Sh.has zai7 x):∃m:{ e:Event // EvR e },x=zaw m.1:=by
 obtain⟨cs,rfl,h0⟩:=zaif h;clear h;have h:=h0;clear h0;obtain⟨a1,r1,rfl,_,h⟩:=zaeU h;obtain⟨a2,r2,rfl,_,h⟩:=zaeU h;obtain⟨a3,r3,rfl,_,h⟩:=zaeU h;obtain⟨a4,r4,rfl,_,h⟩:=zaeU h;obtain⟨a5,r5,rfl,_,h⟩:=zaeU h;obtain⟨a6,r6,rfl,k6,h⟩:=zaeU h;obtain⟨a7,r7,rfl,_,h⟩:=zaeU h;simp only[Sh.hasL] at h;obtain⟨y,r8,h1,rfl,y2,r9,h2,rfl,y3,r10,h3,rfl,rfl⟩:=h;obtain⟨l,rfl,hl⟩:=zVn h1 fun e he=>zajS he;obtain⟨n1,rfl,_⟩:=zVl h2;obtain⟨n2,rfl,_⟩:=zVl h3;refine⟨⟨⟨a1,a2,a3,a4,a5,a6,a7,l.map (·.1),n1,n2⟩,⟨by simpa using hl,zaiC k6,fun g hg=> ?_⟩⟩,?_⟩
 ·obtain⟨y,_,rfl⟩:=zaby.1 hg;exact y.2
 ·simp only[zaw,zacQ];rfl
theorem zajR{x:D}(h:Sh.has (.sl zai7) x):∃l:List Event,x= .sl (l.map zaw)/\l.length<=BIG/\∀e∈l,EvR e:=by
 obtain⟨l,rfl,hl⟩:=zVn (α:={ e:Event // EvR e }) (f:=fun a=>zaw a.1) h fun e he=>zajQ he;refine⟨l.map (·.1),by rw[zacQ];rfl,by rw[zabE];exact hl,fun e he=> ?_⟩;obtain⟨a,_,rfl⟩:=zaby.1 he;exact a.2
theorem n_ex(l:List Int)(a:Nat)(n:Int)(hL:l.length<=4000)(h1:1<=n)(h2:n<=4294967296):∃y a',zi G 11 [.ref 1000000 0 0,.d (.int .i64 n)] [(1000000,srcO l a)]=some (.d (.int .i64 y),[(1000000,srcO l a')])/\0<=y/\y<n:=⟨_,_,zgr l a n hL h1 h2,zbE l a h1⟩
def lrS(u:Setup)(l:List Event)(n:List Int)(k:Nat):St:=⟨[(1,.d (.sl (l.map zaw))),(2,.d (.sl (zC n))),(3,.ref 3 0 0),(7,.d (.int .i64 k))],[(3,.row [.d (zaJ u)])]⟩
theorem zalR(u:Setup)(l:List Event)(n:List Int)(h40:l.length<=40)(hb:∀e∈l,e.l.length<=4294967296):z6 G [] zagR (lrS u l n 0)=some (if (List.range l.length).all (fun k=>decide ((l.getD k zbw).l.length<=30))=true then (.exit 0,⟨[(1,.d (.sl (l.map zaw))),(2,.d (.sl (zC n))),(3,.ref 3 0 0)],[(3,.row [.d (zaJ u)])]⟩) else (.ret,⟨[(6,.d (.bool true))],[]⟩)):=by
 refine zg5 (G:=G) l.length (fun k=>decide ((l.getD k zbw).l.length<=30)) (lrS u l n) _ _ fun k hk L=> ?_;simp only[lrS,zagR]
 by_cases h0:k<l.length
 ·simp only[h0,if_true];have hl:=hb _ (zabC h0);rw[zh h0]
  by_cases c:l[k].l.length<=30
  ·simp only[c,decide_true,if_true];have zk0:=zaw.eq_1;exact zS
  ·simp only[c,decide_false,zabz,if_false];have zk0:=zaw.eq_1;exact zS
 ·exact zS
theorem zalY{e:Event}(h:EvR e)(hl:e.l.length<=30):pV e:=⟨by omega,by omega,fun _ _ g hg=>h.gs g hg,fun _ _=>h.ep⟩
theorem zafk{e:Event}(h:EB e):pV e:=⟨by have:=h.len;omega,by have:=h.len;omega,fun k z g hg=>by have:=h.rc k z g hg;exact⟨by omega,by omega⟩,fun k z=>by have:=h.pu k z;omega⟩
theorem zamv(s:Setup)(l:List Event)(hl:l.length<=1000000)(hv:∀e∈l,pV e):(repA s l).1.l.length<=4294967296:=by
 have key:∀(l:List Event) (b:Bag) (n:Nat),(∀e∈l,pV e)->pBk n b->((repF l b n).1.l.length:Int)<=n+l.length:=by
  intro l
  induction l with
  | nil=>intro b n _ h;exact (show (b.l.length:Int)<=n+0 by have:=h.len;omega)
  | cons e l ih=>
   intro b n hv h;unfold repF
   split
   ·simp only[zBag,zabw];omega
   ·rename_i c;have:=ih (zaeP b e).1 (n+1) (fun x hx=>hv x (.tail _ hx)) (zagY h zo (hv e (.head _)) (zabG.1 c));simp only[zabu];omega
 unfold repA
 split
 ·rename_i c;have:=key l _ 0 hv (zagA _ _ _ c);omega
 ·simp [zBag]
structure Both(s:Setup)(l:List Event):Prop where
 ex:∃b k e,zi G 5 [.d (zaJ s),.d (.sl (l.map zaw))] []=some (.d (.tup [eBag b,.int .i64 k,.int .i64 e]),[])/\zi G 6 [.d (zaJ s),.d (.sl (l.map zaw))] []=some (.d (.tup [eBag b,.int .i64 k,.int .i64 e]),[])/\zi G 7 [.d (eBag b),.d (eBag b)] []=some (.d (.bool true),[])
theorem zafq(s:Setup)(l:List Event)(hl:l.length<=1000000)(hv:∀e∈l,pV e):∃(b:Bag) (k e:Int),zi G 5 [.d (zaJ s),.d (.sl (l.map zaw))] []=some (.d (.tup [eBag b,.int .i64 k,.int .i64 e]),[])/\zi G 6 [.d (zaJ s),.d (.sl (l.map zaw))] []=some (.d (.tup [eBag b,.int .i64 k,.int .i64 e]),[])/\zi G 7 [.d (eBag b),.d (eBag b)] []=some (.d (.bool true),[]):=
 ⟨_,_,_,zanV s l hl hv,zamI s l hl hv,zamd _ (zamv s l hl hv)⟩
theorem zamA(l:List Event)(hL:l.length<=4294967296):zi G 10 [.d (.sl (l.map zaw))] []=some (if (Sort.sortS stF l).length=0 then (.d (.sl []),[]) else (.acc 0 ((Sort.sortS stF l).map zaw),[(0,.acc (Sort.sortS stF l).length)])):=by
 have h:=zamz l hL 0 (Nat.zero_le _);have e:Sort.sortS stF (l.take 0)=[]:=rfl;rw[e] at h;generalize Sort.sortS stF l=R at *;simp only[rouS,rouX,zabw,if_true] at h
 by_cases c0:R.length=0
 ·rw[zabo c0] at h ⊢;simp only[zNr,srcO] at h;exact zW
 ·rw[zabn c0] at h ⊢;simp only[zNr,srcO] at h;exact zW
theorem zamw(u:Setup)(l:List Event)(hR:∀e∈l,EvR e)(n:List Int)(hn:n.length<=LIM):zi G 3 [.d (zaJ u),.d (.sl (l.map zaw)),.d (.sl (zC n))] []=some (.d (.bool true),[]):=by
 have haw:=zaje
 by_cases h40:l.length<=40
 rotate_left
 ·clear haw;simp only[zaJ];exact zW
 have hlp:=zalR u l n h40 fun e he=>by have:=(hR e he).len;unfold BIG at this;omega
 by_cases hall:(List.range l.length).all (fun k=>decide ((l.getD k zbw).l.length<=30))=true
 rotate_left
 ·rw[zabn hall] at hlp;clear haw hall;simp only[lrS,zaJ,zabQ] at hlp ⊢;exact zW
 rw[zabo hall] at hlp;have hpv:∀e∈l,pV e:=fun e he=>by
  refine zalY (hR e he) ?_;obtain⟨k,hk,rfl⟩:=zadc he;have:=zabO.1 hall k (zack.2 hk);rw[zh hk] at this;exact of_decide_eq_true this
 obtain⟨b1,k1,e1,w1,r1,s1⟩:=zafq u l zo hpv;have hnew:=zZ2 n hn;have hl4:(n.take 4000).length<=4000:=by simp;omega
 obtain⟨w,v,a',_,hq,heb,hw⟩:=zanS (n.take 4000) 0 60 hl4 zo;have hlen:w.log.length<=204000:=by have:=hq.lb.lg;have:=hq.lb.st;omega
 have ho:=zamA w.log zo;have hSl:(Sort.sortS stF w.log).length=w.log.length:=Sort.sortS_len w.log;have hSb:∀e∈Sort.sortS stF w.log,EB e:=fun e he=>heb e ((Sort.sortS_perm stF w.log).mem_iff.1 he);generalize Sort.sortS stF w.log=S at *;clear hq heb hall hpv hR hl4 hn;obtain⟨s,wa,tasks,log,steps,handles⟩:=w;simp only at *
 by_cases h0:S.length=0
 ·have hS:S=[]:=zacc.1 h0;subst hS;rw[zabo (by simp)] at ho;obtain⟨b2,k2,e2,w2,r2,s2⟩:=zafq s [] (by simp) (fun _ q=>by cases q);clear hSb h0 hSl hlen;simp only[lrS,zabc,zaJ,srcO,zabQ,zadf,zabq,eBag] at *;exact zW
 ·rw[zabn h0] at ho;obtain⟨iz,a2,hi,i0,i1⟩:=n_ex (n.take 4000) a' S.length (by simp;omega) zo zo;obtain⟨i,rfl⟩:∃i:Nat,iz=i:=⟨iz.toNat,by omega⟩;have hi2:i<S.length:=by omega
  obtain⟨y,a3,hy,y0,y1⟩:=n_ex (n.take 4000) a2 5 (by simp;omega) zo zo;have cases5:y=0\/y=1\/y=2\/y=3\/y=4:=by omega
  have hbi:=hSb _ (zabC hi2);rw[hSl] at hi i1;have hp:¬log.length=0:=by omega
  have hne:¬S=[]:=fun q=>h0 (by rw[q];rfl)
  rcases cases5 with rfl|rfl|rfl|rfl|rfl
  ·obtain⟨b2,k2,e2,w2,r2,s2⟩:=zafq s (S.take i++S.drop (i+1)) (by simp only[zabv,zac9,zadA];omega) (fun e he=>zafk (hSb e ((zabS.1 he).elim (fun q=>zac8 q) fun q=>zadQ q)));clear hSb hbi;have hmin:min i log.length=i:=Nat.min_eq_left zo;have hi4:i<=4294967296:=by omega
   have hhd:Option.map AV.size (List.map AV.d (List.map zaw S)).head? = some 10:=by
    cases S with
    | nil=>exact absurd rfl hne
    | cons z Z=>rfl
   have htk:List.take (log.length - (i+1)) (List.drop (i+1) S)=List.drop (i+1) S:=zada (by rw[zadA];omega);have hmd:min (log.length - (i+1)) (log.length - (i+1))=log.length - (i+1):=Nat.min_self _;have hi5:log.length - (i+1)<=4294967296:=by omega
   have hi6:i+(log.length - (i+1))<=4294967296:=by omega
   simp only[zabF] at w2 r2;simp only[lrS,zabc,zaJ,srcO,zabQ,zadf,zabq,eBag] at *;rw[zI zafX (by simp)];simp -implicitDefEqProofs (maxSteps:=4000000) (disch:=omega) only[zafC,zacO,zh,go_sem, *];(try simp only[zPr]);repeat' (first|done|rfl|((first|refine zad (fun hq=> ?_) (fun hq=> ?_)|refine zaj (fun hq=> ?_) (fun hq=> ?_))<;>(try (first|(exfalso;omega)|contradiction))<;>(try simp -implicitDefEqProofs (maxSteps:=4000000) (disch:=omega) only[zacO,zh,go_sem, *])<;>(try simp only[zPr])));(all_goals try rfl);(all_goals try (repeat' (first|done|rfl|(exfalso;omega)|contradiction|(refine zae (fun hq=> ?_) (fun hq=> ?_)))))
  ·obtain⟨b2,k2,e2,w2,r2,s2⟩:=zafq s (S++[S[i]]) (by simp only[zabv,zab3];omega) (fun e he=>(zabS.1 he).elim (fun q=>zafk (hSb e q)) fun q=>by rw[zab1.1 q];exact zafk hbi);clear hSb hbi;simp only[zabF,zabs,zabq] at w2 r2;simp only[lrS,zabc,zaJ,srcO,zabQ,zadf,zabq,eBag] at *;rw[zI zafX (by simp)];simp -implicitDefEqProofs (maxSteps:=4000000) (disch:=omega) only[zafC,zh,go_sem, *];(try simp only[zPr]);repeat' (first|done|rfl|((first|refine zad (fun hq=> ?_) (fun hq=> ?_)|refine zaj (fun hq=> ?_) (fun hq=> ?_))<;>(try (first|(exfalso;omega)|contradiction))<;>(try simp -implicitDefEqProofs (maxSteps:=4000000) (disch:=omega) only[zh,go_sem, *])<;>(try simp only[zPr])));(all_goals try rfl);(all_goals try (repeat' (first|done|rfl|(exfalso;omega)|contradiction|(refine zae (fun hq=> ?_) (fun hq=> ?_)))))
  ·obtain⟨b2,k2,e2,w2,r2,s2⟩:=zafq s (S.set i { S[i] with now:=IntKind.i64.wrap (S[i].now+1) }) (by rw[zacb];omega) (fun e he=>(zac1 he).elim (fun q=>zafk (hSb e q)) fun q=>by rw[q];exact zafk ⟨hbi.len,hbi.rc,hbi.pu⟩);clear hSb hbi;simp only[zacw,zaw] at w2 r2;simp only[lrS,zabc,zaJ,srcO,zabQ,zadf,zabq,eBag] at *;rw[zI zafX (by simp)];simp -implicitDefEqProofs (maxSteps:=4000000) (disch:=omega) only[zafC,zaw,zh,go_sem, *];(try simp only[zPr]);repeat' (first|done|rfl|((first|refine zad (fun hq=> ?_) (fun hq=> ?_)|refine zaj (fun hq=> ?_) (fun hq=> ?_))<;>(try (first|(exfalso;omega)|contradiction))<;>(try simp -implicitDefEqProofs (maxSteps:=4000000) (disch:=omega) only[zaw,zh,go_sem, *])<;>(try simp only[zPr])));(all_goals try rfl);(all_goals try (repeat' (first|done|rfl|(exfalso;omega)|contradiction|(refine zae (fun hq=> ?_) (fun hq=> ?_)))))
  ·obtain⟨b2,k2,e2,w2,r2,s2⟩:=zafq s (S.set i { S[i] with err:=5 }) (by rw[zacb];omega) (fun e he=>(zac1 he).elim (fun q=>zafk (hSb e q)) fun q=>by rw[q];exact zafk ⟨hbi.len,fun _ z=>by simp at z,fun _ z=>by simp at z⟩);clear hSb hbi;simp only[zacw,zaw] at w2 r2;simp only[lrS,zabc,zaJ,srcO,zabQ,zadf,zabq,eBag] at *;rw[zI zafX (by simp)];simp -implicitDefEqProofs (maxSteps:=4000000) (disch:=omega) only[zafC,zaw,zh,go_sem, *];(try simp only[zPr]);repeat' (first|done|rfl|((first|refine zad (fun hq=> ?_) (fun hq=> ?_)|refine zaj (fun hq=> ?_) (fun hq=> ?_))<;>(try (first|(exfalso;omega)|contradiction))<;>(try simp -implicitDefEqProofs (maxSteps:=4000000) (disch:=omega) only[zaw,zh,go_sem, *])<;>(try simp only[zPr])));(all_goals try rfl);(all_goals try (repeat' (first|done|rfl|(exfalso;omega)|contradiction|(refine zae (fun hq=> ?_) (fun hq=> ?_)))))
  ·obtain⟨b2,k2,e2,w2,r2,s2⟩:=zafq s S zo (fun e he=>zafk (hSb e he));clear hSb hbi;simp only[lrS,zabc,zaJ,srcO,zabQ,zadf,zabq,eBag] at *;rw[zI zafX (by simp)];exact zS
end Go.Proofs.YtcembpbhkcbnhaaGreat
