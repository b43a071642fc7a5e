/-
  Data of a form, as lists and numbers.
-/
import Derived.Test.YtjalkkalhdnplaaGreatB907f86f
import Derived.Carry
import Derived.OpenShut
import Derived.ChangeSlices
import Derived.ChangeArms
import Derived.WideShapes
import Derived.Test.YtjalkkalhdnplaaGreatBe53b64d
import Derived.Test.YtjalkkalhdnplaaGreatBbac9897
import Derived.Test.YtjalkkalhdnplaaGreatB9924435
set_option linter.unusedSimpArgs false
set_option linter.unusedVariables false
set_option maxHeartbeats 10000000
set_option maxRecDepth 100000
namespace Go.Sim
open Go.ChangeShapes Go.WideShapes Go.RowKit
variable {P:Program} {G:FuncId->Option AFn}
theorem zFA (hG:GOK P G) {f:FuncId} {ds:List D} {r:D} (h:zh G f (ds.map .d) []=some (.d r,[])) {w:World} {us:List Value} (hl:us.length=ds.length)
    (hv:∀(i:Nat) (x:D) (u:Value),ds[i]? = some x->us[i]? = some u->Rd w (fun b=>b<w.heap.size) (.v x u)):
    Calls P f us.toArray w fun e w'=>∃u,e= .returned u/\Below w.heap.size w w'/\∃R',Rd w' R' (.v r u):=by
 have h1:=(zEp hG f (ds.map .d) [] (.d r) [] h (by simp) (by simp)).2.1;refine (h1 w (fun b=>b<w.heap.size) (fun _=>none) us (fun b hb=>hb) (by simp) (by simp) (by simp) ⟨by simpa using hl,fun i x u hx hu=> ?_⟩).mono fun e w' h=> ?_
 ·rw[zWT] at hx;obtain⟨d,hd,rfl⟩:=zWC.1 hx;exact .d (hv i d u hd hu)
 ·obtain⟨u,ι',R',h1,h2,h3,h4,h5,_,h6,_,_,_,_,_,_,h7⟩:=h;refine⟨u,h1,⟨h2,h3,h4,h5,fun k hk=>h6 k hk (by simp)⟩,R',?_⟩
  cases h7 with
  | d h7=>exact h7
section
variable {H:Type} {enc:TypeId×Value->H}
theorem zCL(hl:laidOutB P=true){W W':World}(hb:Below W.heap.size W W'):∀ {ts:List TypeId} {vs:List Value} {ds:List (DataW H)} {ps:List MemPlace},
    (∀t∈ts,P.readableRec t=true/\t<P.types.size)->DataW.TrodAll enc P W 0 (fun _=>true) true ts vs ds ps->(∀x∈ps,x.block<W.heap.size)->DataW.TrodAll enc P W' 0 (fun b=>decide (b<W.heap.size)) true ts vs ds ps
 | [],[],[],_,_,h,_=>h
 | _::_,_::_,_::_,_,ht,⟨p,q,h1,h2,e⟩,hlt=>
  ⟨p,q,Below.trod hl (ht _ (.head _)).1 (ht _ (.head _)).2 h1 hb (fun x hx=>hlt x (by rw[e];exact zX5 _ hx)),
   zCL hl hb (fun t h=>ht t (.tail _ h)) h2 (fun x hx=>hlt x (by rw[e];exact zYM _ hx)),e⟩
theorem zQO {f:Func} {s:ChangeSpec} {W W':World} {args:Array Value} {ds gs:List (DataW H)} {before:List MemPlace} {tb:TypeId} (hres:f.resultTypes= #[tb]) (htb:P.underlying tb=some .bool) (hl:laidOutB P=true)
    (ht:∀t∈f.params.toList,P.readableRec t=true/\t<P.types.size) (hW:DataW.Whole enc P f.params.toList s.vars false W args.toList ds gs before) (hv:s.vars=[])
    (hs:s.fn H (ds++gs)={ results:=[.lit (.bool true)],args:=ds }) (hb:Below W.heap.size W W'):s.post enc P f false true false false W args (.bool true) W':=by
 have hlt:∀x∈before,x.block<W.heap.size:=fun x hx=>by simpa using hW.lt x hx
 obtain⟨p,q,hA,hV,e,hfz,hnd⟩:=hW;have hV0:=hV;rw[hv] at hV0;obtain⟨rfl,rfl⟩:=trodVars_none hV0;refine⟨ds,[],before,[],p,[],⟨p,[],hA,hV,e,hfz,hnd⟩,?_,?_,?_,hb.frame _,fun h=>by cases h⟩
 ·rw[hs,hres];exact trodAll_mk1 (shut_bool htb _)
 ·rw[hs];exact zCL hl hb ht hA (fun x hx=>hlt x (by rw[e];exact zX5 _ hx))
 ·rw[hs,hv];rfl
end
theorem zC0{k:IntKind}{n:Int}(h:(Lit.int k n).wf=true):k.has n:=by
 simp only[Lit.wf,zWS,decide_eq_true_eq] at h;simp [IntKind.has,h]
end Go.Sim

namespace Go.Sim
open Go.ChangeShapes Go.WideShapes Go.RowKit
variable {P:Program}
inductive Sh where
 | int (k:IntKind)
 | bool
 | str
 | sl (s:Sh)
 | agg (fs:List Sh)
 deriving Inhabited
mutual
def Sh.size:Sh->Nat
 | .agg fs=>Sh.sizeL fs
 | _=>1
def Sh.sizeL:List Sh->Nat
 | []=>0
 | s::l=>s.size+Sh.sizeL l
end
def BIG:Nat:=1048576
mutual
def Sh.has:Sh->D->Prop
 | .int k,.int k' n=>k'=k/\k.has n
 | .bool,.bool _=>True
 | .str,.str s=>s.length<=BIG
 | .sl s,.sl es=>es.length<=BIG/\∀e∈es,Sh.has s e
 | .agg fs,.agg cs=>Sh.hasL fs cs
 | _,_=>False
def Sh.hasL:List Sh->List D->Prop
 | [],cs=>cs=[]
 | s::l,cs=>∃x r,Sh.has s x/\cs=x.cells++r/\Sh.hasL l r
end
def zmS(P:Program)(F:TypeId->Option Sh):Nat->List Field->Option (List Sh)
 | _,[]=>some []
 | off,f::fs=>
  match F f.type with
  | some s=>if f.offset=off/\P.cellsOf f.type=s.size then (zmS P F (off+s.size) fs).map (s:: ·) else none
  | none=>none
def zk7(P:Program):Nat->TypeId->Option Sh
 | 0,_=>none
 | n+1,t=>
  match P.underlying t with
  | some .bool=>some .bool
  | some (.int k)=>some (.int k)
  | some .string=>some .str
  | some (.slice e)=>match zk7 P n e with|some s=>if P.cellsOf e=s.size/\0<s.size then some (.sl s) else none|none=>none
  | some (.struct fs)=>match zmS P (zk7 P n) 0 fs.toList with|some l=>if P.cellsOf t=Sh.sizeL l then some (.agg l) else none|none=>none
  | _=>none
structure zhH{H:Type}(B:DataW H->Nat)(Bs:List (DataW H)->Nat):Prop where
 sl:∀es sp,B (.slice es sp)=Bs es+Bs sp+1
 agg:∀ps,B (.agg ps)=Bs ps+1
 str:∀s,B (.lit (.string s))=s.length+1
 nil:Bs []=0
 cons:∀d r,Bs (d::r)=B d+Bs r
 pos:∀d,1<=B d
theorem zhH.len{H:Type}{B:DataW H->Nat}{Bs:List (DataW H)->Nat}(b:zhH B Bs):∀l:List (DataW H),l.length<=Bs l:=by
 intro l
 induction l with
 | nil=>simp
 | cons d r ih=>rw[b.cons,zWI];have:=b.pos d;omega
theorem zhH.mem{H:Type}{B:DataW H->Nat}{Bs:List (DataW H)->Nat}(b:zhH B Bs){d:DataW H}:∀ {l:List (DataW H)},d∈l->B d<=Bs l:=by
 intro l
 induction l with
 | nil=>intro h;cases h
 | cons e r ih=>
  intro h;rw[b.cons]
  cases h with
  | head=>omega
  | tail _ h=>have:=ih h;omega
theorem zEH{n:Nat}{Q:Nat->D->Prop}(h:∀i,i<n->∃x,Q i x):∃es:List D,es.length=n/\∀i e,es[i]? = some e->Q i e:=by
 induction n with
 | zero=>exact⟨[],rfl,fun i e he=>by simp at he⟩
 | succ n ih=>
  obtain⟨es,hl,hq⟩:=ih fun i hi=>h i (by omega);obtain⟨x,hx⟩:=h n (by omega);refine⟨es++[x],by simp [hl],fun i e he=> ?_⟩
  by_cases hi:i<es.length
  ·rw[zXE hi] at he;exact hq i e he
  ·rw[zXz (by omega)] at he
   by_cases hi2:i - es.length=0
   ·rw[hi2] at he;simp at he;subst he;rw[show i=n by omega];exact hx
   ·rw[zYk (by simp;omega)] at he;cases he
theorem Sh.has_notup{s:Sh}{x:D}(h:Sh.has s x):∀vs,x≠ .tup vs:=by
 intro vs e;subst e
 cases s<;>simp [Sh.has] at h
variable {H:Type} {enc:TypeId×Value->H} {w:World} {spare:Nat->Bool} {held:Bool} {B:DataW H->Nat} {Bs:List (DataW H)->Nat}
def zpq(w:World)(r:List D)(cs:List Value):Prop:=r.length=cs.length/\∀(i:Nat) (c:D) (u:Value),r[i]? = some c->cs[i]? = some u->c.cell=true/\Rd w (fun b=>b<w.heap.size) (.v c u)
theorem zH3 (hB:zhH B Bs) {F:TypeId->Option Sh} {n:Nat} {cs:List Value}
    (ih:∀t cs d ps sh,DataW.trod enc P w 0 spare held n t cs=some (d,ps)->F t=some sh->B d<=BIG->∃x,Sh.has sh x/\x.size=sh.size/\zpq w x.cells cs):
    ∀(fs:List Field) (off:Nat) (shs:List Sh) (xs:List (DataW H×List MemPlace)),zmS P F off fs=some shs->xs.length=fs.length->Bs (xs.map (·.1))<=BIG->
     (∀(i:Nat) (f:Field),fs[i]? = some f->DataW.trod enc P w 0 spare held n f.type ((cs.drop f.offset).take (P.cellsOf f.type))=xs[i]?)->off+Sh.sizeL shs<=cs.length->
     ∃r:List D,Sh.hasL shs r/\r.length=Sh.sizeL shs/\∀(j:Nat) (c:D) (u:Value),r[j]? = some c->cs[off+j]? = some u->c.cell=true/\Rd w (fun b=>b<w.heap.size) (.v c u):=by
 intro fs
 induction fs with
 | nil=>
  intro off shs xs h1 _ _ _ _;simp only[zmS,Option.some.injEq] at h1;subst h1;exact⟨[],rfl,rfl,fun j c u h=>by simp at h⟩
 | cons f fs ihf=>
  intro off shs xs h1 h2 h3 h4 h5;simp only[zmS] at h1
  split at h1
  ·rename_i s hs
   split at h1
   ·rename_i hc;obtain⟨shs',h6,rfl⟩:=zWC.1 h1
    cases xs with
    | nil=>simp at h2
    | cons y ys=>
     obtain⟨d,ps⟩:=y;simp only[zWD,hB.cons] at h3;simp only[Sh.sizeL] at h5;have hf:=h4 0 f rfl;simp only[zXT] at hf;obtain⟨x,hx1,hx2,hx3,hx4⟩:=ih f.type _ d ps s hf hs (by omega);obtain⟨r,hr1,hr2,hr3⟩:=ihf (off+s.size) shs' ys h6 (by simpa using h2) (by omega) (fun i g hg=>by simpa using h4 (i+1) g (by simpa using hg)) (by omega);have hxl:x.cells.length=s.size:=hx2;refine⟨x.cells++r,⟨x,r,hx1,rfl,hr1⟩,by rw[zWJ,hr2,hxl];rfl,fun j c u hj hu=> ?_⟩
     by_cases hlt:j<s.size
     ·rw[zXE (by omega)] at hj;refine hx4 j c u hj ?_;rw[hc.1,hc.2,zZD,zWz hlt,zYN];exact hu
     ·rw[zXz (by omega),hxl] at hj;exact hr3 (j - s.size) c u hj (by rw[show off+s.size+(j - s.size)=off+j by omega];exact hu)
   ·cases h1
  ·cases h1
theorem zP6(hB:zhH B Bs):∀(n:Nat) (m:Nat) (t:TypeId) (cs:List Value) (d:DataW H) (ps:List MemPlace) (sh:Sh),DataW.trod enc P w 0 spare held n t cs=some (d,ps)->zk7 P m t=some sh->B d<=BIG->
    ∃x,Sh.has sh x/\x.size=sh.size/\zpq w x.cells cs:=by
 intro n
 induction n using Nat.strongRecOn with
 | ind n ih=>
  intro m t cs d ps sh h hsh hb
  cases m with
  | zero=>cases hsh
  | succ m=>
   simp only[zk7] at hsh
   split at hsh
   ·rename_i ht
    cases hsh
    obtain⟨b,rfl,hx⟩:=DataW.trod_bool ht h;exact⟨.bool b,trivial,rfl,rfl,fun i c u hc hu=>by
     cases i with
     | zero=>simp [D.cells] at hc hu;subst hc;subst hu;exact⟨rfl,.bool⟩
     | succ i=>simp [D.cells] at hc⟩
   ·rename_i k ht
    cases hsh
    obtain⟨z,rfl,hx,hw⟩:=DataW.trod_int ht h;exact⟨.int k z,⟨rfl,zC0 hw⟩,rfl,rfl,fun i c u hc hu=>by
     cases i with
     | zero=>simp [D.cells] at hc hu;subst hc;subst hu;exact⟨rfl,.int (zC0 hw)⟩
     | succ i=>simp [D.cells] at hc⟩
   ·rename_i ht
    cases hsh
    obtain⟨s,rfl,hx,_⟩:=DataW.trod_string ht h;simp only[Prod.mk.injEq] at hx;obtain⟨rfl, -⟩:=hx;rw[hB.str] at hb;have hs:s.data.toList.length<=BIG:=by omega
    refine⟨.str s.data.toList,hs,rfl,rfl,fun i c u hc hu=> ?_⟩
    cases i with
    | zero=>
     simp [D.cells] at hc hu;subst hc;subst hu;have:=Rd.str (w:=w) (R:=fun b=>b<w.heap.size) (s:=s.data.toList) (zXo hs (by simp [BIG,LIM]));simp only[Array.toArray_toList] at this;exact⟨rfl,this⟩
    | succ i=>simp [D.cells] at hc
   ·rename_i e ht
    split at hsh
    ·rename_i s hse
     split at hsh
     ·rename_i hc
      cases hsh
      rcases DataW.trod_slice ht h with ⟨rfl,hx⟩|⟨a,len,cap,elems,rest,n',rfl,rfl,hx,hbase,hl,hm,hlen,hel,hsp,hns⟩
      ·exact⟨.sl [],⟨by simp,by simp⟩,rfl,rfl,fun i c u hc hu=>by
          cases i with
          | zero=>simp [D.cells] at hc hu;subst hc;subst hu;exact⟨rfl,.sl0⟩
          | succ i=>simp [D.cells] at hc⟩
      ·simp only[Prod.mk.injEq] at hx;obtain⟨rfl, -⟩:=hx;rw[hB.sl] at hb;have hlb:=hB.len (elems.map (·.1));rw[zWM,hlen] at hlb;have each:∀i,i<len->∃x,Sh.has s x/\x.size=s.size/\∃cs',w.cells? 0 (a.add (i * P.cellsOf e)) (P.cellsOf e)=some cs'/\zpq w x.cells cs':=by
        intro i hi;have h1:=hel i hi;rw[zWF (by omega)] at h1;obtain⟨cs',h2,h3⟩:=zWB.1 h1;obtain⟨x,hx1,hx2,hx3⟩:=ih n' (by omega) m e cs' (elems[i]'(by omega)).1 (elems[i]'(by omega)).2 s h3 hse (by
         have:=hB.mem (d:=(elems[i]'(by omega)).1) (l:=elems.map (·.1)) (zYK (zWH _));omega)
        exact⟨x,hx1,hx2,cs',h2,hx3⟩
       obtain⟨es,hes1,hes2⟩:=zEH each;have hall:∀x∈es,Sh.has s x/\x.size=s.size:=fun x hx=>by
        obtain⟨i,hi⟩:=zXn hx;exact⟨(hes2 i x hi).1,(hes2 i x hi).2.1⟩
       refine⟨.sl es,⟨by omega,fun x hx=>(hall x hx).1⟩,rfl,rfl,fun i c u hcc hu=> ?_⟩
       cases i with
       | succ i=>simp [D.cells] at hcc
       | zero=>
        simp [D.cells] at hcc hu;subst hcc;subst hu;refine⟨rfl,?_⟩;subst hes1
        by_cases h0:es=[]
        ·subst h0;exact .sl0
        ·have hpos:=zX6.2 h0;have hce:P.cellsOf e=s.size:=hc.1;obtain⟨_,_,cs0,hcs0,_⟩:=hes2 0 es[0] (zWF hpos);have hc0:=(World.cells?_some hcs0).2.2 0 (by omega);have hl0:=(World.cells?_some hcs0).2.1;rw[zWF (by omega)] at hc0;obtain⟨b,off,spot⟩:=a;have hspot:spot=none:=by
          have:=World.cell?_spot hc0;unfold Addr.add at this;revert this
          split<;>(try split)<;>simp_all
         subst hspot;have hlt:b<w.heap.size:=World.block_lt_of_cell? w _ (by simpa [add_plain] using hc0);refine .sl (s:=s.size) hlt h0 hc.2 (by simp only[LIM,BIG] at *; omega) hl (fun x hx=>(hall x hx).2) fun i x hx=> ?_;obtain⟨hx1,hx2,cs',hcs',hx3,hx4⟩:=hes2 i x hx;obtain⟨_,hl',hcell'⟩:=World.cells?_some hcs';refine Rd.el_of_cells (Sh.has_notup hx1) fun j c hj=> ?_;have hjl:j<s.size:=by
          have h1:=(zWU.1 hj).1;have h2:x.cells.length=s.size:=hx2;omega
         have hu:cs'[j]? = some (cs'[j]'(by omega)):=zWF (by omega);obtain⟨k1,k2⟩:=hx4 j c _ hj hu;refine⟨k1,_,?_,k2⟩;have:=hcell' j (by omega);rw[add_plain,add_plain,hu,hce] at this;exact this
     ·cases hsh
    ·cases hsh
   ·rename_i fs ht
    split at hsh
    ·rename_i l hl
     split at hsh
     ·rename_i hc
      cases hsh
      obtain⟨xs,n',rfl,hx,hcl,hxl,hf⟩:=DataW.trod_struct ht h;simp only[Prod.mk.injEq] at hx;obtain⟨rfl, -⟩:=hx;rw[hB.agg] at hb;obtain⟨r,hr1,hr2,hr3⟩:=zH3 (cs:=cs) hB (fun t cs d ps sh h1 h2 h3=>ih n' (by omega) m t cs d ps sh h1 h2 h3) fs.toList 0 l xs hl (by simpa using hxl) (by omega) (fun i f hi=>hf i f (by simpa using hi)) (by omega);exact⟨.agg r,hr1,hr2,by rw[show D.cells (.agg r)=r from rfl];omega,fun i c u hc hu=>hr3 i c u hc (by simpa using hu)⟩
     ·cases hsh
    ·cases hsh
   ·cases hsh
theorem zP7 (hB:zhH B Bs) {m:Nat} {base:Nat} {t:TypeId} {v:Value} {d:DataW H} {ps:List MemPlace} {sh:Sh} (h:DataW.Trod enc P w 0 spare held t v d ps) (hsh:zk7 P m t=some sh) (hb:B d<=BIG)
    (hv:Value.okWide P w .any base t v):∃x,Sh.has sh x/\Rd w (fun b=>b<w.heap.size) (.v x v):=by
 obtain⟨fuel,hf⟩:=h;obtain⟨x,h1,h2,h3,h4⟩:=zP6 hB fuel m t _ d ps sh hf hsh hb;refine⟨x,h1,?_⟩
 cases m with
 | zero=>cases hsh
 | succ m=>
  have one:∀u:Value,v=u->u.cells.toList=[u]->x.cell=true->Rd w (fun b=>b<w.heap.size) (.v x v):=by
   intro u e1 e2 e3;subst e1;exact (h4 0 x v (by rw[D.cells_cell e3];rfl) (by rw[e2];rfl)).2
  simp only[zk7] at hsh
  split at hsh
  ·rename_i ht
   cases hsh
   obtain⟨b,hv⟩:=okWide_bool ht hv
   cases x<;>simp [Sh.has] at h1
   exact one _ hv rfl rfl
  ·rename_i k ht
   cases hsh
   obtain⟨b,hv⟩:=okWide_int ht hv
   cases x<;>simp [Sh.has] at h1
   exact one _ hv rfl rfl
  ·rename_i ht
   cases hsh
   obtain⟨b,hv⟩:=okWide_string ht hv
   cases x<;>simp [Sh.has] at h1
   exact one _ hv rfl rfl
  ·rename_i e ht;obtain⟨a,len,cap,hv⟩:=okWide_slice ht hv
   split at hsh
   ·split at hsh
    ·cases hsh
     cases x<;>simp [Sh.has] at h1
     exact one _ hv rfl rfl
    ·cases hsh
   ·cases hsh
  ·rename_i fs ht;obtain⟨cs,rfl,_⟩:=okWide_struct ht hv
   split at hsh
   ·split at hsh
    ·cases hsh
     cases x<;>simp [Sh.has] at h1
     rename_i cells;have:=Rd.agg (w:=w) (R:=fun b=>b<w.heap.size) (cs:=cells) (vs:=cs.toList) (by simpa [D.cells,Value.cells] using h3.symm) (fun c hc=>by
      obtain⟨i,hi⟩:=zXn hc;have hlt:=(zWU.1 hi).1;have hlen:cells.length=cs.toList.length:=by simpa [D.cells,Value.cells] using h3
      exact (h4 i c (cs.toList[i]'(by omega)) hi (by simp [Value.cells])).1) (fun i c u hc hu=>(h4 i c u hc (by simpa [Value.cells] using hu)).2)
     simpa using this
    ·cases hsh
   ·cases hsh
  ·cases hsh
end Go.Sim

namespace Go.Proofs.YtjalkkalhdnplaaGreat
open Go Go.Sim
namespace Aw
def aQ(A B C F:D)(id e:Int):D:= .agg [A,B,.int .i64 0,.int .i64 3,.sl [],.int .i64 1,C,F,.int .i64 e,.int .i64 0,.int .i64 id]
def zju(ep:Int):D:= .agg [.int .i64 2,.int .i64 2,.int .i64 3,.int .i64 3,.int .i64 1,.int .i64 0,.int .i64 1,.int .i64 ep]
def zmQ:D:= .agg [.int .i64 0,.int .i64 0,.int .i64 0,.int .i64 0,.int .i64 0,.int .i64 0,.str []]
def msQ(id rt E:Int):D:= .agg [.int .i64 id,.int .i64 rt,.int .i64 E,.int .i64 0,.int .i64 0,.int .i64 0,.str [109]]
def slQ(E:Int):D:= .sl [.agg [.int .i64 0,.bool true,.int .i64 0,.int .i64 32767,.sl [zmQ,zmQ,zmQ],.int .i64 0,.int .i64 0,.sl [],.sl []],.agg [.int .i64 0,.bool true,.int .i64 32768,.int .i64 65535,.sl [msQ 1 47383 E,msQ 2 47226 E,zmQ],.int .i64 0,.int .i64 2,.sl [],.sl []]]
def stQ(E:Int):D:= .sl [.agg [.int .i64 0,.int .i64 E,.int .i64 0,.int .i64 0],.agg [.int .i64 4,.int .i64 E,.int .i64 2,.int .i64 0]]
def dQ1:D:= .sl [.agg [.int .i64 0,.int .i64 32767,.int .i64 0],.agg [.int .i64 32768,.int .i64 65535,.int .i64 1]]
def dQ2:D:= .sl [.int .i64 (-1),.int .i64 (-1)]
def aE(E e:Int):D:=aQ (slQ E) (stQ E) dQ1 dQ2 3 e
theorem zVN:zaN G 60 64 [.d (.int .i64 2),.d (.int .i64 3),.d (.int .i64 1)] []=some (.d (zju 0),[]):=by kernel_rfl
def e0(E:Int):D:= .sl [.agg [.int .i64 0,.bool true,.int .i64 0,.int .i64 32767,.sl [zmQ,zmQ,zmQ],.int .i64 0,.int .i64 0,.sl [],.sl []],.agg [.int .i64 0,.bool true,.int .i64 32768,.int .i64 65535,.sl [zmQ,zmQ,zmQ],.int .i64 0,.int .i64 0,.sl [],.sl []]]
def e1(E:Int):D:= .sl [.agg [.int .i64 0,.int .i64 E,.int .i64 0,.int .i64 0],.agg [.int .i64 0,.int .i64 E,.int .i64 0,.int .i64 0]]
def e2(E:Int):D:= .sl [.agg [.int .i64 0,.int .i64 32767,.int .i64 0],.agg [.int .i64 32768,.int .i64 65535,.int .i64 1]]
def e3(E:Int):D:= .sl [.int .i64 (-1),.int .i64 (-1)]
def e4(E:Int):D:= .sl [.agg [.int .i64 1,.int .i64 1,.int .i64 0,.int .i64 0,.int .i64 0,.int .i64 0,.int .i64 0,.sl [.str [109]],.sl [],.int .i64 0,.bool false,.int .i64 0,.int .i64 0,.int .i64 0,.sl [],.int .i64 2,.int .i64 2,.int .i64 3,.int .i64 3,.int .i64 1,.int .i64 0,.int .i64 1,.int .i64 E,.int .i64 0,.int .i64 0,.sl [],.int .i64 0,.int .i64 0,.int .i64 0,.int .i64 0,.int .i64 0,.int .i64 0,.int .i64 0,.int .i64 0,.sl [],.int .i64 0,.sl [],.sl [],.int .i64 0,.sl [],.sl [],.sl [],.int .i64 0,.sl [],.sl [],.sl [],.sl [],.int .i64 0,.sl [],.int .i64 0,.sl [],.sl [],.int .i64 0,.int .i64 0,.int .i64 0,.int .i64 0,.int .i64 0,.int .i64 0,.int .i64 0,.int .i64 0,.int .i64 0,.sl [],.sl []]]
def e5(E:Int):D:= .sl [.agg [.int .i64 0,.bool true,.int .i64 0,.int .i64 32767,.sl [zmQ,zmQ,zmQ],.int .i64 0,.int .i64 0,.sl [],.sl []],.agg [.int .i64 0,.bool true,.int .i64 32768,.int .i64 65535,.sl [.agg [.int .i64 1,.int .i64 47383,.int .i64 E,.int .i64 0,.int .i64 0,.int .i64 0,.str [109]],zmQ,zmQ],.int .i64 0,.int .i64 1,.sl [],.sl []]]
def e6(E:Int):D:= .sl [.agg [.int .i64 0,.int .i64 E,.int .i64 0,.int .i64 0],.agg [.int .i64 2,.int .i64 E,.int .i64 1,.int .i64 0]]
def e7(E:Int):D:= .sl [.agg [.int .i64 1,.int .i64 1,.int .i64 0,.int .i64 0,.int .i64 0,.int .i64 0,.int .i64 0,.sl [.str [109]],.sl [],.int .i64 0,.bool true,.int .i64 13,.int .i64 0,.int .i64 1,.sl [.agg [.int .i64 0,.int .i64 1,.sl [],.sl [],.int .i64 0,.int .i64 0,.int .i64 0]],.int .i64 2,.int .i64 2,.int .i64 3,.int .i64 3,.int .i64 1,.int .i64 0,.int .i64 1,.int .i64 E,.int .i64 0,.int .i64 0,.sl [],.int .i64 0,.int .i64 0,.int .i64 0,.int .i64 0,.int .i64 0,.int .i64 0,.int .i64 0,.int .i64 0,.sl [],.int .i64 0,.sl [],.sl [],.int .i64 0,.sl [],.sl [],.sl [],.int .i64 0,.sl [],.sl [],.sl [],.sl [],.int .i64 0,.sl [],.int .i64 0,.sl [],.sl [],.int .i64 0,.int .i64 0,.int .i64 0,.int .i64 0,.int .i64 0,.int .i64 0,.int .i64 0,.int .i64 0,.int .i64 0,.sl [],.sl []]]
def e8(E:Int):D:= .sl [.agg [.int .i64 9,.int .i64 1,.int .i64 0,.int .i64 2,.int .i64 0,.int .i64 E,.int .i64 0,.sl [.agg [.int .i64 1,.int .i64 0,.int .i64 47383,.int .i64 0]],.int .i64 0,.int .i64 0]]
def e9(E:Int):D:= .sl [.agg [.int .i64 1,.int .i64 1,.int .i64 0,.int .i64 0,.int .i64 0,.int .i64 0,.int .i64 0,.sl [.str [109]],.sl [],.int .i64 0,.bool true,.int .i64 13,.int .i64 0,.int .i64 1,.sl [.agg [.int .i64 0,.int .i64 1,.sl [],.sl [],.int .i64 0,.int .i64 0,.int .i64 0]],.int .i64 2,.int .i64 2,.int .i64 3,.int .i64 3,.int .i64 1,.int .i64 0,.int .i64 1,.int .i64 E,.int .i64 0,.int .i64 0,.sl [],.int .i64 0,.int .i64 0,.int .i64 0,.int .i64 0,.int .i64 0,.int .i64 0,.int .i64 0,.int .i64 0,.sl [],.int .i64 0,.sl [],.sl [],.int .i64 0,.sl [],.sl [],.sl [],.int .i64 0,.sl [],.sl [],.sl [],.sl [],.int .i64 0,.sl [],.int .i64 0,.sl [],.sl [],.int .i64 0,.int .i64 0,.int .i64 0,.int .i64 0,.int .i64 0,.int .i64 0,.int .i64 0,.int .i64 0,.int .i64 0,.sl [],.sl []],.agg [.int .i64 2,.int .i64 1,.int .i64 0,.int .i64 0,.int .i64 0,.int .i64 0,.int .i64 0,.sl [.str [109]],.sl [],.int .i64 13,.bool false,.int .i64 0,.int .i64 0,.int .i64 0,.sl [],.int .i64 2,.int .i64 2,.int .i64 3,.int .i64 3,.int .i64 1,.int .i64 0,.int .i64 1,.int .i64 E,.int .i64 0,.int .i64 0,.sl [],.int .i64 0,.int .i64 0,.int .i64 0,.int .i64 0,.int .i64 0,.int .i64 0,.int .i64 0,.int .i64 0,.sl [],.int .i64 0,.sl [],.sl [],.int .i64 0,.sl [],.sl [],.sl [],.int .i64 0,.sl [],.sl [],.sl [],.sl [],.int .i64 0,.sl [],.int .i64 0,.sl [],.sl [],.int .i64 0,.int .i64 0,.int .i64 0,.int .i64 0,.int .i64 0,.int .i64 0,.int .i64 0,.int .i64 0,.int .i64 0,.sl [],.sl []]]
def e10(E:Int):D:= .sl [.agg [.int .i64 0,.bool true,.int .i64 0,.int .i64 32767,.sl [zmQ,zmQ,zmQ],.int .i64 0,.int .i64 0,.sl [],.sl []],.agg [.int .i64 0,.bool true,.int .i64 32768,.int .i64 65535,.sl [.agg [.int .i64 1,.int .i64 47383,.int .i64 E,.int .i64 0,.int .i64 0,.int .i64 0,.str [109]],.agg [.int .i64 2,.int .i64 47226,.int .i64 E,.int .i64 0,.int .i64 0,.int .i64 0,.str [109]],zmQ],.int .i64 0,.int .i64 2,.sl [],.sl []]]
def e11(E:Int):D:= .sl [.agg [.int .i64 0,.int .i64 E,.int .i64 0,.int .i64 0],.agg [.int .i64 4,.int .i64 E,.int .i64 2,.int .i64 0]]
def e12(E:Int):D:= .sl [.agg [.int .i64 1,.int .i64 1,.int .i64 0,.int .i64 0,.int .i64 0,.int .i64 0,.int .i64 0,.sl [.str [109]],.sl [],.int .i64 0,.bool true,.int .i64 13,.int .i64 0,.int .i64 1,.sl [.agg [.int .i64 0,.int .i64 1,.sl [],.sl [],.int .i64 0,.int .i64 0,.int .i64 0]],.int .i64 2,.int .i64 2,.int .i64 3,.int .i64 3,.int .i64 1,.int .i64 0,.int .i64 1,.int .i64 E,.int .i64 0,.int .i64 0,.sl [],.int .i64 0,.int .i64 0,.int .i64 0,.int .i64 0,.int .i64 0,.int .i64 0,.int .i64 0,.int .i64 0,.sl [],.int .i64 0,.sl [],.sl [],.int .i64 0,.sl [],.sl [],.sl [],.int .i64 0,.sl [],.sl [],.sl [],.sl [],.int .i64 0,.sl [],.int .i64 0,.sl [],.sl [],.int .i64 0,.int .i64 0,.int .i64 0,.int .i64 0,.int .i64 0,.int .i64 0,.int .i64 0,.int .i64 0,.int .i64 0,.sl [],.sl []],.agg [.int .i64 2,.int .i64 1,.int .i64 0,.int .i64 0,.int .i64 0,.int .i64 0,.int .i64 0,.sl [.str [109]],.sl [],.int .i64 13,.bool true,.int .i64 26,.int .i64 0,.int .i64 1,.sl [.agg [.int .i64 0,.int .i64 2,.sl [],.sl [],.int .i64 0,.int .i64 0,.int .i64 0]],.int .i64 2,.int .i64 2,.int .i64 3,.int .i64 3,.int .i64 1,.int .i64 0,.int .i64 1,.int .i64 E,.int .i64 0,.int .i64 0,.sl [],.int .i64 0,.int .i64 0,.int .i64 0,.int .i64 0,.int .i64 0,.int .i64 0,.int .i64 0,.int .i64 0,.sl [],.int .i64 0,.sl [],.sl [],.int .i64 0,.sl [],.sl [],.sl [],.int .i64 0,.sl [],.sl [],.sl [],.sl [],.int .i64 0,.sl [],.int .i64 0,.sl [],.sl [],.int .i64 0,.int .i64 0,.int .i64 0,.int .i64 0,.int .i64 0,.int .i64 0,.int .i64 0,.int .i64 0,.int .i64 0,.sl [],.sl []]]
def e13(E:Int):D:= .sl [.agg [.int .i64 9,.int .i64 1,.int .i64 0,.int .i64 2,.int .i64 0,.int .i64 E,.int .i64 0,.sl [.agg [.int .i64 1,.int .i64 0,.int .i64 47383,.int .i64 0]],.int .i64 0,.int .i64 0],.agg [.int .i64 22,.int .i64 2,.int .i64 0,.int .i64 2,.int .i64 0,.int .i64 E,.int .i64 0,.sl [.agg [.int .i64 2,.int .i64 0,.int .i64 47226,.int .i64 0]],.int .i64 0,.int .i64 0]]
def v0(E:Int):D:= .agg [.int .i64 2,.int .i64 2,.int .i64 3,.int .i64 3,.int .i64 1,.int .i64 0,.int .i64 1,.int .i64 E,(e0 E),(e1 E),.int .i64 0,.int .i64 3,.sl [],.int .i64 1,(e2 E),(e3 E),.int .i64 E,.int .i64 0,.int .i64 1,.sl [],.sl [],.int .i64 0,.sl []]
def v1(E:Int):D:= .agg [.int .i64 2,.int .i64 2,.int .i64 3,.int .i64 3,.int .i64 1,.int .i64 0,.int .i64 1,.int .i64 E,(e0 E),(e1 E),.int .i64 0,.int .i64 3,.sl [],.int .i64 1,(e2 E),(e3 E),.int .i64 E,.int .i64 0,.int .i64 1,(e4 E),.sl [],.int .i64 0,.sl []]
def v2(E:Int):D:= .agg [.int .i64 2,.int .i64 2,.int .i64 3,.int .i64 3,.int .i64 1,.int .i64 0,.int .i64 1,.int .i64 E,(e5 E),(e6 E),.int .i64 0,.int .i64 3,.sl [],.int .i64 1,(e2 E),(e3 E),.int .i64 E,.int .i64 0,.int .i64 2,(e7 E),(e8 E),.int .i64 13,.sl []]
def v3(E:Int):D:= .agg [.int .i64 2,.int .i64 2,.int .i64 3,.int .i64 3,.int .i64 1,.int .i64 0,.int .i64 1,.int .i64 E,(e5 E),(e6 E),.int .i64 0,.int .i64 3,.sl [],.int .i64 1,(e2 E),(e3 E),.int .i64 E,.int .i64 0,.int .i64 2,(e9 E),(e8 E),.int .i64 13,.sl []]
def v4(E:Int):D:= .agg [.int .i64 2,.int .i64 2,.int .i64 3,.int .i64 3,.int .i64 1,.int .i64 0,.int .i64 1,.int .i64 E,(e10 E),(e11 E),.int .i64 0,.int .i64 3,.sl [],.int .i64 1,(e2 E),(e3 E),.int .i64 E,.int .i64 0,.int .i64 3,(e12 E),(e13 E),.int .i64 26,.sl []]
def zlK:D:= .agg [.int .i64 1,.int .i64 0,.int .i64 0,.int .i64 0,.int .i64 0,.int .i64 0,.sl [.str [109]],.sl []]
def a4(E:Int):D:= .agg [(e10 E),(e11 E),.int .i64 0,.int .i64 3,.sl [],.int .i64 1,(e2 E),(e3 E),.int .i64 E,.int .i64 0,.int .i64 3]
theorem zDb(E:Int):a4 E=aE E E:=rfl
theorem zOg (E:Int) (h0:zh G 44 [.d (zju E)] []=some (.d (.tup [v0 E,.int .i64 0]),[]))
    (h1:zh G 116 [.d (v0 E),.d zlK] []=some (.d (.tup [v1 E,.int .i64 1,.int .i64 0]),[])) (h2:zh G 117 [.d (v1 E)] []=some (.d (.tup [v2 E,.int .i64 13,.int .i64 0]),[]))
    (h3:zh G 116 [.d (v2 E),.d zlK] []=some (.d (.tup [v3 E,.int .i64 2,.int .i64 0]),[])) (h4:zh G 117 [.d (v3 E)] []=some (.d (.tup [v4 E,.int .i64 13,.int .i64 0]),[])):
    zh G 65 [.d (zju E),.d (.int .i64 2)] []=some (.d (aE E E),[]):=by
 rw[<- zDb];simp only[v0,v1,v2,v3,v4,a4,zju,zlK] at *;generalize e0 E=x0,e1 E=x1,e2 E=x2,e3 E=x3,e4 E=x4,e5 E=x5,e6 E=x6,e7 E=x7,e8 E=x8,e9 E=x9,e10 E=x10,e11 E=x11,e12 E=x12,e13 E=x13 at *;have zk0:= @za0;have zk1:=zAl.eq_1;exact zW
end Aw
end Go.Proofs.YtjalkkalhdnplaaGreat

namespace Go.Proofs.YtjalkkalhdnplaaGreat
open Go Go.Sim
namespace Aw
theorem zO8:zaN G 60 44 [.d (zju 0)] []=some (.d (.tup [v0 0,.int .i64 0]),[]):=by kernel_rfl
theorem zNd:zaN G 60 116 [.d (v0 0),.d zlK] []=some (.d (.tup [v1 0,.int .i64 1,.int .i64 0]),[]):=by kernel_rfl
theorem zH9:zaN G 60 117 [.d (v1 0)] []=some (.d (.tup [v2 0,.int .i64 13,.int .i64 0]),[]):=by kernel_rfl
theorem zNe:zaN G 60 116 [.d (v2 0),.d zlK] []=some (.d (.tup [v3 0,.int .i64 2,.int .i64 0]),[]):=by kernel_rfl
theorem zIa:zaN G 60 117 [.d (v3 0)] []=some (.d (.tup [v4 0,.int .i64 13,.int .i64 0]),[]):=by kernel_rfl
end Aw
end Go.Proofs.YtjalkkalhdnplaaGreat

namespace Go.Proofs.YtjalkkalhdnplaaGreat
open Go Go.Sim
namespace Aw
def zz9:D:= .agg [.int .i64 7,.int .i64 0,.int .i64 0,.int .i64 0,.int .i64 0,.int .i64 0,.sl [],.sl []]
def zBS:D:= .agg [.int .i64 0,.int .i64 0,.sl [],.sl [],.int .i64 2,.int .i64 0,.int .i64 0]
def evC:D:= .agg [.int .i64 4,.int .i64 1,.int .i64 0,.int .i64 8,.int .i64 0,.int .i64 0,.int .i64 0,.sl [],.int .i64 2,.int .i64 0]
theorem zSG:zaN G 60 19 [.d (aE 0 0),.d (zju 0),.d zz9,.d (.int .i64 0)] []=some (.d (.tup [aE 0 0,.sl [zBS],.sl [evC],.int .i64 6]),[]):=by kernel_rfl
theorem awake_ok:zh G 17 [] []=some (.d (.bool true),[]):=by
 have cl:∀ {f:FuncId} {args:List Go.Sim.AV} {os:zf} {p:Go.Sim.AV×zf},zaN G 60 f args os=some p->zh G f args os=some p:=fun h=>zxA.2 ⟨60,h⟩;have h1:=cl zVN;have h2:=zOg 0 (cl zO8) (cl zNd) (cl zH9) (cl zNe) (cl zIa);have h3:=cl zSG;clear cl;simp only[aE,aQ,zju,zz9,zBS,evC] at *;generalize slQ 0=A,stQ 0=B,dQ1=C,dQ2=F at *;exact zW
end Aw
end Go.Proofs.YtjalkkalhdnplaaGreat

namespace Go.Proofs.YtjalkkalhdnplaaGreat
open Go Go.Sim
theorem zC7(n:Nat)(j:Nat):(List.replicate n (0:Int)).getD j 0=0:=by
 rw[zWG,zY5]
 split<;>rfl
theorem zEx{u:Setup}{w:World}{t:zi}{x:Nat}(hq:QI u 102000 w)(hg:WG u w)(hc:CT u w.steps t)(hp:t.pc=0)(hn:t.number=199):CBI u w.steps ⟨x,w.arena,w.tasks,w.steps,t,List.replicate 400 0,List.replicate 400 0,List.replicate 400 false⟩:=by
 have hst0:=hq.wi.st;have hst1:=hq.lb.st;have hpi:PI u w.steps w.arena w.tasks:=⟨hq.wi.hu,hq.wi.ar,hq.wi.ts,fun t h=>(hq.tk t h).2,hq.wi.tl,by omega⟩;exact {
  f0:=by omega,n:=by simp only;omega,j:=PJ.world hpi hg,c:=hc,nu:=hn,lA:=zXw,lB:=zXw,lQ:=zXw,z:=fun j _=>⟨zC7 400 j,zC7 400 j⟩,
         h:=⟨fun q=>absurd q (by simp only;omega),fun q=>absurd q (by simp only;omega),fun q=>absurd q (by simp only;omega),fun q=>absurd q (by simp only;omega)⟩ }
theorem zD3(l:List Int)(hL:l.length<=LIM):zh G 3 [.d (.sl (zt l))] []=some (.d (.bool true),[]):=by
 have hnew:=zPb l hL;have hl4:(l.take 4000).length<=4000:=by simp;omega
 obtain⟨w,u,a',hu4,hq,hg,hw⟩:=zV7 (l.take 4000) 0 24 hl4 zo;have hst0:=hq.wi.st;have htl:=hq.wi.tl;have hsu:=hq.wi.su;have hu:=hq.wi.hu;have hpl:=zQC w (l.take 4000) a' zo;have hst:=zCp 199 w.steps (i:=⟨7,0,0,0,0,0,[],[]⟩) (s:=w.setup) (by rw[hsu];exact hu4) (by simp) (by simp);have e1:zcz 199 ⟨7,0,0,0,0,0,[],[]⟩ w.setup w.steps=({ zC with number:=199,inv:=⟨7,0,0,0,0,0,[],[]⟩,setup:=w.setup,invoked:=w.steps },0):=by
  unfold zcz;rw[zWy zo,hsu,zWy (by rw[hu];decide)];rfl
 obtain⟨t0,ht0⟩:∃t0:zi,t0={ zC with number:=199,inv:=⟨7,0,0,0,0,0,[],[]⟩,setup:=w.setup,invoked:=w.steps }:=⟨_,rfl⟩;have hmt:CT u w.steps t0:=by
  have e2:zcz 199 ⟨7,0,0,0,0,0,[],[]⟩ u w.steps=({ zC with number:=199,inv:=⟨7,0,0,0,0,0,[],[]⟩,setup:=w.setup,invoked:=w.steps },0):=by rw[<- hsu];exact e1
  have hk:=zCq (N:=w.steps) (u:=u) (number:=199) (i:=⟨7,0,0,0,0,0,[],[]⟩) (n:=w.steps) hst0 (by rw[e2]);rw[e2] at hk;rw[ht0];exact⟨rfl,rfl,hk,.inr ⟨rfl,rfl,rfl,⟨by show (0:Int)<=0;decide,by show (0:Int)<=3;decide⟩,fun q=>absurd q (by show ¬(0:Int)=1;decide),fun q=>absurd q (by show ¬(0:Int)=2;decide)⟩⟩
 have hI:=zEx (x:=a') hq hg hmt (by rw[ht0];rfl) (by rw[ht0]);have haw:=Aw.awake_ok;rw[e1, <- ht0] at hst;clear ht0 e1 hq hL hg hmt hst0 hu hu4;generalize l.take 4000=l4 at *;obtain⟨s,wa,tasks,log,steps,handles⟩:=w;simp only at *;subst hsu
 rcases tasks with _|⟨t1,ts⟩
 ·have hlp:=zEv s [.sl (wa.slots.map zd0),.sl (wa.stripes.map zG),.int .i64 wa.dead.owner,.int .i64 wa.dead.dead.cap,.sl (wa.dead.dead.l.map zk),.int .i64 wa.dir.version,.sl (wa.dir.l.map zbR),.sl (zt wa.dir.forward),.int .i64 wa.epoch,.int .i64 wa.clock,.int .i64 wa.nextID,.sl [],.sl (log.map zad),.int .i64 steps,.sl (handles.map zax)] l4 hl4 steps _ ⟨hI,rfl⟩;clear hI;simp only[zhL,zYI,List.reduceReplicate] at hlp;have sz_t0:=zE t0;generalize zd t0=D_t0 at *;simp only[zWV,zYa,zaH,zy,zp,zbf,zbK,zWA,zWD,zWK,zn] at *;rw[zO zzy (by simp)];simp -implicitDefEqProofs (maxSteps:=4000000) (disch:=omega) only[zm8,zq,go_sem, *];(try simp only[zPr]);repeat' (first|done|rfl|((first|refine za5 (fun hq=> ?_) (fun hq=> ?_)|refine zbd (fun hq=> ?_) (fun hq=> ?_))<;>(try (first|(exfalso;omega)|contradiction))<;>(try simp -implicitDefEqProofs (maxSteps:=4000000) (disch:=omega) only[zq,go_sem, *])<;>(try simp only[zPr])));(all_goals try rfl);(all_goals try (repeat' (first|done|rfl|(exfalso;omega)|contradiction|(refine za6 (fun hq=> ?_) (fun hq=> ?_)))))
 ·have hlp:=zEw s [.sl (wa.slots.map zd0),.sl (wa.stripes.map zG),.int .i64 wa.dead.owner,.int .i64 wa.dead.dead.cap,.sl (wa.dead.dead.l.map zk),.int .i64 wa.dir.version,.sl (wa.dir.l.map zbR),.sl (zt wa.dir.forward),.int .i64 wa.epoch,.int .i64 wa.clock,.int .i64 wa.nextID,.sl (zd t1::ts.map zd),.sl (log.map zad),.int .i64 steps,.sl (handles.map zax)] l4 hl4 steps _ ⟨hI,by simp⟩;clear hI;obtain⟨R,hR⟩:∃R,R=zN G [260,18,188] zfJ (zhc s [.sl (wa.slots.map zd0),.sl (wa.stripes.map zG),.int .i64 wa.dead.owner,.int .i64 wa.dead.dead.cap,.sl (wa.dead.dead.l.map zk),.int .i64 wa.dir.version,.sl (wa.dir.l.map zbR),.sl (zt wa.dir.forward),.int .i64 wa.epoch,.int .i64 wa.clock,.int .i64 wa.nextID,.sl (zd t1::ts.map zd),.sl (log.map zad),.int .i64 steps,.sl (handles.map zax)] l4 steps ⟨a',wa,t1::ts,steps,t0,List.replicate 400 0,List.replicate 400 0,List.replicate 400 false⟩):=⟨_,rfl⟩;rw[<- hR] at hlp;obtain⟨ts2,hlp⟩:=hlp;rw[hR] at hlp;clear hR;simp only[zhc,zYI,List.reduceReplicate] at hlp;have sz_t0:=zE t0;generalize zd t0=D_t0 at *;simp only[zWV,zYa,zaH,zy,zp,zbf,zbK,zWA,zWD,zWI,zn] at *;rw[zO zzy (by simp)];simp -implicitDefEqProofs (maxSteps:=4000000) (disch:=omega) only[zm8,zq,go_sem, *];(try simp only[zPr]);repeat' (first|done|rfl|((first|refine za5 (fun hq=> ?_) (fun hq=> ?_)|refine zbd (fun hq=> ?_) (fun hq=> ?_))<;>(try (first|(exfalso;omega)|contradiction))<;>(try simp -implicitDefEqProofs (maxSteps:=4000000) (disch:=omega) only[zq,go_sem, *])<;>(try simp only[zPr])));(all_goals try rfl);(all_goals try (repeat' (first|done|rfl|(exfalso;omega)|contradiction|(refine za6 (fun hq=> ?_) (fun hq=> ?_)))))
theorem zHz{α:Type}{f:α->D}{s:Sh}{x:D}(h:Sh.has (.sl s) x)(hs:∀e,Sh.has s e->∃a,e=f a):∃l:List α,x= .sl (l.map f)/\l.length<=BIG:=by
 cases x<;>simp only[Sh.has] at h
 rename_i es;obtain⟨h1,h2⟩:=h;have:∃l:List α,es=l.map f:=by
  clear h1
  induction es with
  | nil=>exact⟨[],rfl⟩
  | cons e es ih=>
   obtain⟨a,rfl⟩:=hs e (h2 e (by simp));obtain⟨l,rfl⟩:=ih fun e he=>h2 e (by simp [he]);exact⟨a::l,rfl⟩
 obtain⟨l,rfl⟩:=this;exact⟨l,rfl,by simpa using h1⟩
theorem zHx{k:IntKind}{x:D}(h:Sh.has (.int k) x):∃n:Int,x= .int k n/\k.has n:=by
 cases x<;>simp only[Sh.has] at h
 obtain⟨rfl,h⟩:=h;exact⟨_,rfl,h⟩
theorem zHy{x:D}(h:Sh.has (.sl (.int .i64)) x):∃l:List Int,x= .sl (zt l)/\l.length<=BIG:=zHz h fun e he=>by obtain⟨n,rfl,_⟩:=zHx he;exact⟨n,rfl⟩
end Go.Proofs.YtjalkkalhdnplaaGreat
