/-
  Data of the form of a shard, as shards.
-/
import Derived.Test.YtjalkkalhdnplaaGreatB568fc85
import Derived.Carry
import Derived.OpenShut
import Derived.ChangeSlices
import Derived.ChangeArms
import Derived.WideShapes
set_option linter.unusedSimpArgs false
set_option linter.unusedVariables false
set_option maxHeartbeats 10000000
set_option maxRecDepth 100000
namespace Go.Sim
open Go.ChangeShapes Go.WideShapes Go.RowKit
variable {P:Program} {G:FuncId->Option AFn}
theorem zHo (hG:GOK P G) {f:FuncId} {ds:List D} {r:D} (h:zd G f (ds.map .d) []=some (.d r,[])) {w:World} {us:List Value} (hl:us.length=ds.length)
    (hv:∀(i:Nat) (x:D) (u:Value),ds[i]? = some x->us[i]? = some u->Rd w (fun b=>b<w.heap.size) (.v x u)):
    Calls P f us.toArray w fun e w'=>∃u,e= .returned u/\Below w.heap.size w w'/\∃R',Rd w' R' (.v r u):=by
 have h1:=(zyw hG f (ds.map .d) [] (.d r) [] h (by simp) (by simp)).2.1;refine (h1 w (fun b=>b<w.heap.size) (fun _=>none) us (fun b hb=>hb) (by simp) (by simp) (by simp) ⟨by simpa using hl,fun i x u hx hu=> ?_⟩).mono fun e w' h=> ?_
 ·rw[zZa] at hx;obtain⟨d,hd,rfl⟩:=zYT.1 hx;exact .d (hv i d u hd hu)
 ·obtain⟨u,ι',R',h1,h2,h3,h4,h5,_,h6,_,_,_,_,_,_,h7⟩:=h;refine⟨u,h1,⟨h2,h3,h4,h5,fun k hk=>h6 k hk (by simp)⟩,R',?_⟩
  cases h7 with
  | d h7=>exact h7
section
variable {H:Type} {enc:TypeId×Value->H}
theorem zEn(hl:laidOutB P=true){W W':World}(hb:Below W.heap.size W W'):∀ {ts:List TypeId} {vs:List Value} {ds:List (DataW H)} {ps:List MemPlace},
    (∀t∈ts,P.readableRec t=true/\t<P.types.size)->DataW.TrodAll enc P W 0 (fun _=>true) true ts vs ds ps->(∀x∈ps,x.block<W.heap.size)->DataW.TrodAll enc P W' 0 (fun b=>decide (b<W.heap.size)) true ts vs ds ps
 | [],[],[],_,_,h,_=>h
 | _::_,_::_,_::_,_,ht,⟨p,q,h1,h2,e⟩,hlt=>
  ⟨p,q,Below.trod hl (ht _ (.head _)).1 (ht _ (.head _)).2 h1 hb (fun x hx=>hlt x (by rw[e];exact z0n _ hx)),
   zEn hl hb (fun t h=>ht t (.tail _ h)) h2 (fun x hx=>hlt x (by rw[e];exact z0V _ hx)),e⟩
theorem zS7 {f:Func} {s:ChangeSpec} {W W':World} {args:Array Value} {ds gs:List (DataW H)} {before:List MemPlace} {tb:TypeId} (hres:f.resultTypes= #[tb]) (htb:P.underlying tb=some .bool) (hl:laidOutB P=true)
    (ht:∀t∈f.params.toList,P.readableRec t=true/\t<P.types.size) (hW:DataW.Whole enc P f.params.toList s.vars false W args.toList ds gs before) (hv:s.vars=[])
    (hs:s.fn H (ds++gs)={ results:=[.lit (.bool true)],args:=ds }) (hb:Below W.heap.size W W'):s.post enc P f false true false false W args (.bool true) W':=by
 have hlt:∀x∈before,x.block<W.heap.size:=fun x hx=>by simpa using hW.lt x hx
 obtain⟨p,q,hA,hV,e,hfz,hnd⟩:=hW;have hV0:=hV;rw[hv] at hV0;obtain⟨rfl,rfl⟩:=trodVars_none hV0;refine⟨ds,[],before,[],p,[],⟨p,[],hA,hV,e,hfz,hnd⟩,?_,?_,?_,hb.frame _,fun h=>by cases h⟩
 ·rw[hs,hres];exact trodAll_mk1 (shut_bool htb _)
 ·rw[hs];exact zEn hl hb ht hA (fun x hx=>hlt x (by rw[e];exact z0n _ hx))
 ·rw[hs,hv];rfl
end
theorem zEV{k:IntKind}{n:Int}(h:(Lit.int k n).wf=true):k.has n:=by
 simp only[Lit.wf,zY6,decide_eq_true_eq] at h;simp [IntKind.has,h]
end Go.Sim

namespace Go.Sim
open Go.ChangeShapes Go.WideShapes Go.RowKit
variable {P:Program}
inductive Sh where
 | int (k:IntKind)
 | bool
 | str
 | sl (s:Sh)
 | agg (fs:List Sh)
 deriving Inhabited
mutual
def Sh.size:Sh->Nat
 | .agg fs=>Sh.sizeL fs
 | _=>1
def Sh.sizeL:List Sh->Nat
 | []=>0
 | s::l=>s.size+Sh.sizeL l
end
def BIG:Nat:=1048576
mutual
def Sh.has:Sh->D->Prop
 | .int k,.int k' n=>k'=k/\k.has n
 | .bool,.bool _=>True
 | .str,.str s=>s.length<=BIG
 | .sl s,.sl es=>es.length<=BIG/\∀e∈es,Sh.has s e
 | .agg fs,.agg cs=>Sh.hasL fs cs
 | _,_=>False
def Sh.hasL:List Sh->List D->Prop
 | [],cs=>cs=[]
 | s::l,cs=>∃x r,Sh.has s x/\cs=x.cells++r/\Sh.hasL l r
end
def zmM(P:Program)(F:TypeId->Option Sh):Nat->List Field->Option (List Sh)
 | _,[]=>some []
 | off,f::fs=>
  match F f.type with
  | some s=>if f.offset=off/\P.cellsOf f.type=s.size then (zmM P F (off+s.size) fs).map (s:: ·) else none
  | none=>none
def zkU(P:Program):Nat->TypeId->Option Sh
 | 0,_=>none
 | n+1,t=>
  match P.underlying t with
  | some .bool=>some .bool
  | some (.int k)=>some (.int k)
  | some .string=>some .str
  | some (.slice e)=>match zkU P n e with|some s=>if P.cellsOf e=s.size/\0<s.size then some (.sl s) else none|none=>none
  | some (.struct fs)=>match zmM P (zkU P n) 0 fs.toList with|some l=>if P.cellsOf t=Sh.sizeL l then some (.agg l) else none|none=>none
  | _=>none
structure zhn{H:Type}(B:DataW H->Nat)(Bs:List (DataW H)->Nat):Prop where
 sl:∀es sp,B (.slice es sp)=Bs es+Bs sp+1
 agg:∀ps,B (.agg ps)=Bs ps+1
 str:∀s,B (.lit (.string s))=s.length+1
 nil:Bs []=0
 cons:∀d r,Bs (d::r)=B d+Bs r
 pos:∀d,1<=B d
theorem zhn.len{H:Type}{B:DataW H->Nat}{Bs:List (DataW H)->Nat}(b:zhn B Bs):∀l:List (DataW H),l.length<=Bs l:=by
 intro l
 induction l with
 | nil=>simp
 | cons d r ih=>rw[b.cons,zYW];have:=b.pos d;omega
theorem zhn.mem{H:Type}{B:DataW H->Nat}{Bs:List (DataW H)->Nat}(b:zhn B Bs){d:DataW H}:∀ {l:List (DataW H)},d∈l->B d<=Bs l:=by
 intro l
 induction l with
 | nil=>intro h;cases h
 | cons e r ih=>
  intro h;rw[b.cons]
  cases h with
  | head=>omega
  | tail _ h=>have:=ih h;omega
theorem zGx{n:Nat}{Q:Nat->D->Prop}(h:∀i,i<n->∃x,Q i x):∃es:List D,es.length=n/\∀i e,es[i]? = some e->Q i e:=by
 induction n with
 | zero=>exact⟨[],rfl,fun i e he=>by simp at he⟩
 | succ n ih=>
  obtain⟨es,hl,hq⟩:=ih fun i hi=>h i (by omega);obtain⟨x,hx⟩:=h n (by omega);refine⟨es++[x],by simp [hl],fun i e he=> ?_⟩
  by_cases hi:i<es.length
  ·rw[z0p hi] at he;exact hq i e he
  ·rw[z0d (by omega)] at he
   by_cases hi2:i - es.length=0
   ·rw[hi2] at he;simp at he;subst he;rw[show i=n by omega];exact hx
   ·rw[z0F (by simp;omega)] at he;cases he
theorem Sh.has_notup{s:Sh}{x:D}(h:Sh.has s x):∀vs,x≠ .tup vs:=by
 intro vs e;subst e
 cases s<;>simp [Sh.has] at h
variable {H:Type} {enc:TypeId×Value->H} {w:World} {spare:Nat->Bool} {held:Bool} {B:DataW H->Nat} {Bs:List (DataW H)->Nat}
def zpG(w:World)(r:List D)(cs:List Value):Prop:=r.length=cs.length/\∀(i:Nat) (c:D) (u:Value),r[i]? = some c->cs[i]? = some u->c.cell=true/\Rd w (fun b=>b<w.heap.size) (.v c u)
theorem zJK (hB:zhn B Bs) {F:TypeId->Option Sh} {n:Nat} {cs:List Value}
    (ih:∀t cs d ps sh,DataW.trod enc P w 0 spare held n t cs=some (d,ps)->F t=some sh->B d<=BIG->∃x,Sh.has sh x/\x.size=sh.size/\zpG w x.cells cs):
    ∀(fs:List Field) (off:Nat) (shs:List Sh) (xs:List (DataW H×List MemPlace)),zmM P F off fs=some shs->xs.length=fs.length->Bs (xs.map (·.1))<=BIG->
     (∀(i:Nat) (f:Field),fs[i]? = some f->DataW.trod enc P w 0 spare held n f.type ((cs.drop f.offset).take (P.cellsOf f.type))=xs[i]?)->off+Sh.sizeL shs<=cs.length->
     ∃r:List D,Sh.hasL shs r/\r.length=Sh.sizeL shs/\∀(j:Nat) (c:D) (u:Value),r[j]? = some c->cs[off+j]? = some u->c.cell=true/\Rd w (fun b=>b<w.heap.size) (.v c u):=by
 intro fs
 induction fs with
 | nil=>
  intro off shs xs h1 _ _ _ _;simp only[zmM,Option.some.injEq] at h1;subst h1;exact⟨[],rfl,rfl,fun j c u h=>by simp at h⟩
 | cons f fs ihf=>
  intro off shs xs h1 h2 h3 h4 h5;simp only[zmM] at h1
  split at h1
  ·rename_i s hs
   split at h1
   ·rename_i hc;obtain⟨shs',h6,rfl⟩:=zYT.1 h1
    cases xs with
    | nil=>simp at h2
    | cons y ys=>
     obtain⟨d,ps⟩:=y;simp only[zYU,hB.cons] at h3;simp only[Sh.sizeL] at h5;have hf:=h4 0 f rfl;simp only[z0v] at hf;obtain⟨x,hx1,hx2,hx3,hx4⟩:=ih f.type _ d ps s hf hs (by omega);obtain⟨r,hr1,hr2,hr3⟩:=ihf (off+s.size) shs' ys h6 (by simpa using h2) (by omega) (fun i g hg=>by simpa using h4 (i+1) g (by simpa using hg)) (by omega);have hxl:x.cells.length=s.size:=hx2;refine⟨x.cells++r,⟨x,r,hx1,rfl,hr1⟩,by rw[zYZ,hr2,hxl];rfl,fun j c u hj hu=> ?_⟩
     by_cases hlt:j<s.size
     ·rw[z0p (by omega)] at hj;refine hx4 j c u hj ?_;rw[hc.1,hc.2,z1R,zYQ hlt,z0W];exact hu
     ·rw[z0d (by omega),hxl] at hj;exact hr3 (j - s.size) c u hj (by rw[show off+s.size+(j - s.size)=off+j by omega];exact hu)
   ·cases h1
  ·cases h1
theorem zSx(hB:zhn B Bs):∀(n:Nat) (m:Nat) (t:TypeId) (cs:List Value) (d:DataW H) (ps:List MemPlace) (sh:Sh),DataW.trod enc P w 0 spare held n t cs=some (d,ps)->zkU P m t=some sh->B d<=BIG->
    ∃x,Sh.has sh x/\x.size=sh.size/\zpG w x.cells cs:=by
 intro n
 induction n using Nat.strongRecOn with
 | ind n ih=>
  intro m t cs d ps sh h hsh hb
  cases m with
  | zero=>cases hsh
  | succ m=>
   simp only[zkU] at hsh
   split at hsh
   ·rename_i ht
    cases hsh
    obtain⟨b,rfl,hx⟩:=DataW.trod_bool ht h;exact⟨.bool b,trivial,rfl,rfl,fun i c u hc hu=>by
     cases i with
     | zero=>simp [D.cells] at hc hu;subst hc;subst hu;exact⟨rfl,.bool⟩
     | succ i=>simp [D.cells] at hc⟩
   ·rename_i k ht
    cases hsh
    obtain⟨z,rfl,hx,hw⟩:=DataW.trod_int ht h;exact⟨.int k z,⟨rfl,zEV hw⟩,rfl,rfl,fun i c u hc hu=>by
     cases i with
     | zero=>simp [D.cells] at hc hu;subst hc;subst hu;exact⟨rfl,.int (zEV hw)⟩
     | succ i=>simp [D.cells] at hc⟩
   ·rename_i ht
    cases hsh
    obtain⟨s,rfl,hx,_⟩:=DataW.trod_string ht h;simp only[Prod.mk.injEq] at hx;obtain⟨rfl, -⟩:=hx;rw[hB.str] at hb;have hs:s.data.toList.length<=BIG:=by omega
    refine⟨.str s.data.toList,hs,rfl,rfl,fun i c u hc hu=> ?_⟩
    cases i with
    | zero=>
     simp [D.cells] at hc hu;subst hc;subst hu;have:=Rd.str (w:=w) (R:=fun b=>b<w.heap.size) (s:=s.data.toList) (zZG hs (by simp [BIG,LIM]));simp only[Array.toArray_toList] at this;exact⟨rfl,this⟩
    | succ i=>simp [D.cells] at hc
   ·rename_i e ht
    split at hsh
    ·rename_i s hse
     split at hsh
     ·rename_i hc
      cases hsh
      rcases DataW.trod_slice ht h with ⟨rfl,hx⟩|⟨a,len,cap,elems,rest,n',rfl,rfl,hx,hbase,hl,hm,hlen,hel,hsp,hns⟩
      ·exact⟨.sl [],⟨by simp,by simp⟩,rfl,rfl,fun i c u hc hu=>by
          cases i with
          | zero=>simp [D.cells] at hc hu;subst hc;subst hu;exact⟨rfl,.sl0⟩
          | succ i=>simp [D.cells] at hc⟩
      ·simp only[Prod.mk.injEq] at hx;obtain⟨rfl, -⟩:=hx;rw[hB.sl] at hb;have hlb:=hB.len (elems.map (·.1));rw[zY3,hlen] at hlb;have each:∀i,i<len->∃x,Sh.has s x/\x.size=s.size/\∃cs',w.cells? 0 (a.add (i * P.cellsOf e)) (P.cellsOf e)=some cs'/\zpG w x.cells cs':=by
        intro i hi;have h1:=hel i hi;rw[zY1 (by omega)] at h1;obtain⟨cs',h2,h3⟩:=zYR.1 h1;obtain⟨x,hx1,hx2,hx3⟩:=ih n' (by omega) m e cs' (elems[i]'(by omega)).1 (elems[i]'(by omega)).2 s h3 hse (by
         have:=hB.mem (d:=(elems[i]'(by omega)).1) (l:=elems.map (·.1)) (z0T (zY4 _));omega)
        exact⟨x,hx1,hx2,cs',h2,hx3⟩
       obtain⟨es,hes1,hes2⟩:=zGx each;have hall:∀x∈es,Sh.has s x/\x.size=s.size:=fun x hx=>by
        obtain⟨i,hi⟩:=zZD hx;exact⟨(hes2 i x hi).1,(hes2 i x hi).2.1⟩
       refine⟨.sl es,⟨by omega,fun x hx=>(hall x hx).1⟩,rfl,rfl,fun i c u hcc hu=> ?_⟩
       cases i with
       | succ i=>simp [D.cells] at hcc
       | zero=>
        simp [D.cells] at hcc hu;subst hcc;subst hu;refine⟨rfl,?_⟩;subst hes1
        by_cases h0:es=[]
        ·subst h0;exact .sl0
        ·have hpos:=z0o.2 h0;have hce:P.cellsOf e=s.size:=hc.1;obtain⟨_,_,cs0,hcs0,_⟩:=hes2 0 es[0] (zY1 hpos);have hc0:=(World.cells?_some hcs0).2.2 0 (by omega);have hl0:=(World.cells?_some hcs0).2.1;rw[zY1 (by omega)] at hc0;obtain⟨b,off,spot⟩:=a;have hspot:spot=none:=by
          have:=World.cell?_spot hc0;unfold Addr.add at this;revert this
          split<;>(try split)<;>simp_all
         subst hspot;have hlt:b<w.heap.size:=World.block_lt_of_cell? w _ (by simpa [add_plain] using hc0);refine .sl (s:=s.size) hlt h0 hc.2 (by simp only[LIM,BIG] at *; omega) hl (fun x hx=>(hall x hx).2) fun i x hx=> ?_;obtain⟨hx1,hx2,cs',hcs',hx3,hx4⟩:=hes2 i x hx;obtain⟨_,hl',hcell'⟩:=World.cells?_some hcs';refine Rd.el_of_cells (Sh.has_notup hx1) fun j c hj=> ?_;have hjl:j<s.size:=by
          have h1:=(zY7.1 hj).1;have h2:x.cells.length=s.size:=hx2;omega
         have hu:cs'[j]? = some (cs'[j]'(by omega)):=zY1 (by omega);obtain⟨k1,k2⟩:=hx4 j c _ hj hu;refine⟨k1,_,?_,k2⟩;have:=hcell' j (by omega);rw[add_plain,add_plain,hu,hce] at this;exact this
     ·cases hsh
    ·cases hsh
   ·rename_i fs ht
    split at hsh
    ·rename_i l hl
     split at hsh
     ·rename_i hc
      cases hsh
      obtain⟨xs,n',rfl,hx,hcl,hxl,hf⟩:=DataW.trod_struct ht h;simp only[Prod.mk.injEq] at hx;obtain⟨rfl, -⟩:=hx;rw[hB.agg] at hb;obtain⟨r,hr1,hr2,hr3⟩:=zJK (cs:=cs) hB (fun t cs d ps sh h1 h2 h3=>ih n' (by omega) m t cs d ps sh h1 h2 h3) fs.toList 0 l xs hl (by simpa using hxl) (by omega) (fun i f hi=>hf i f (by simpa using hi)) (by omega);exact⟨.agg r,hr1,hr2,by rw[show D.cells (.agg r)=r from rfl];omega,fun i c u hc hu=>hr3 i c u hc (by simpa using hu)⟩
     ·cases hsh
    ·cases hsh
   ·cases hsh
theorem zoT (hB:zhn B Bs) {m:Nat} {base:Nat} {t:TypeId} {v:Value} {d:DataW H} {ps:List MemPlace} {sh:Sh} (h:DataW.Trod enc P w 0 spare held t v d ps) (hsh:zkU P m t=some sh) (hb:B d<=BIG)
    (hv:Value.okWide P w .any base t v):∃x,Sh.has sh x/\Rd w (fun b=>b<w.heap.size) (.v x v):=by
 obtain⟨fuel,hf⟩:=h;obtain⟨x,h1,h2,h3,h4⟩:=zSx hB fuel m t _ d ps sh hf hsh hb;refine⟨x,h1,?_⟩
 cases m with
 | zero=>cases hsh
 | succ m=>
  have one:∀u:Value,v=u->u.cells.toList=[u]->x.cell=true->Rd w (fun b=>b<w.heap.size) (.v x v):=by
   intro u e1 e2 e3;subst e1;exact (h4 0 x v (by rw[D.cells_cell e3];rfl) (by rw[e2];rfl)).2
  simp only[zkU] at hsh
  split at hsh
  ·rename_i ht
   cases hsh
   obtain⟨b,hv⟩:=okWide_bool ht hv
   cases x<;>simp [Sh.has] at h1
   exact one _ hv rfl rfl
  ·rename_i k ht
   cases hsh
   obtain⟨b,hv⟩:=okWide_int ht hv
   cases x<;>simp [Sh.has] at h1
   exact one _ hv rfl rfl
  ·rename_i ht
   cases hsh
   obtain⟨b,hv⟩:=okWide_string ht hv
   cases x<;>simp [Sh.has] at h1
   exact one _ hv rfl rfl
  ·rename_i e ht;obtain⟨a,len,cap,hv⟩:=okWide_slice ht hv
   split at hsh
   ·split at hsh
    ·cases hsh
     cases x<;>simp [Sh.has] at h1
     exact one _ hv rfl rfl
    ·cases hsh
   ·cases hsh
  ·rename_i fs ht;obtain⟨cs,rfl,_⟩:=okWide_struct ht hv
   split at hsh
   ·split at hsh
    ·cases hsh
     cases x<;>simp [Sh.has] at h1
     rename_i cells;have:=Rd.agg (w:=w) (R:=fun b=>b<w.heap.size) (cs:=cells) (vs:=cs.toList) (by simpa [D.cells,Value.cells] using h3.symm) (fun c hc=>by
      obtain⟨i,hi⟩:=zZD hc;have hlt:=(zY7.1 hi).1;have hlen:cells.length=cs.toList.length:=by simpa [D.cells,Value.cells] using h3
      exact (h4 i c (cs.toList[i]'(by omega)) hi (by simp [Value.cells])).1) (fun i c u hc hu=>(h4 i c u hc (by simpa [Value.cells] using hu)).2)
     simpa using this
    ·cases hsh
   ·cases hsh
  ·cases hsh
end Go.Sim

namespace Go.Proofs.YtjalkkalhdnplaaGreat
open Go Go.Sim
theorem zJg{α:Type}{f:α->D}{s:Sh}{x:D}(h:Sh.has (.sl s) x)(hs:∀e,Sh.has s e->∃a,e=f a):∃l:List α,x= .sl (l.map f)/\l.length<=BIG:=by
 cases x<;>simp only[Sh.has] at h
 rename_i es;obtain⟨h1,h2⟩:=h;have:∃l:List α,es=l.map f:=by
  clear h1
  induction es with
  | nil=>exact⟨[],rfl⟩
  | cons e es ih=>
   obtain⟨a,rfl⟩:=hs e (h2 e (by simp));obtain⟨l,rfl⟩:=ih fun e he=>h2 e (by simp [he]);exact⟨a::l,rfl⟩
 obtain⟨l,rfl⟩:=this;exact⟨l,rfl,by simpa using h1⟩
theorem zny{k:IntKind}{x:D}(h:Sh.has (.int k) x):∃n:Int,x= .int k n/\k.has n:=by
 cases x<;>simp only[Sh.has] at h
 obtain⟨rfl,h⟩:=h;exact⟨_,rfl,h⟩
theorem zJf{x:D}(h:Sh.has (.sl (.int .i64)) x):∃l:List Int,x= .sl (zt l)/\l.length<=BIG:=zJg h fun e he=>by obtain⟨n,rfl,_⟩:=zny he;exact⟨n,rfl⟩
theorem znx{k:IntKind}{s:List Sh}{cs:List D}(h:Sh.hasL (.int k::s) cs):∃(n:Int) (r:List D),cs= .int k n::r/\k.has n/\Sh.hasL s r:=by
 simp only[Sh.hasL] at h;obtain⟨x,r,h1,rfl,h2⟩:=h;obtain⟨n,rfl,hn⟩:=zny h1;exact⟨n,r,rfl,hn,h2⟩
abbrev shI:Sh:= .int .i64
theorem zJe{s:List Sh}{x:D}(h:Sh.has (.agg s) x):∃cs,x= .agg cs/\Sh.hasL s cs:=by
 cases x<;>simp only[Sh.has] at h
 exact⟨_,rfl,h⟩
theorem zJh{cs:List D}(h:Sh.hasL [] cs):cs=[]:=by cases cs with|nil=>rfl|cons a l=>simp [Sh.hasL] at h
abbrev zWt:Sh:= .agg [shI,shI,shI,shI]
theorem zJi{x:D}(h:Sh.has zWt x):∃m:Stripe,x=zE m:=by
 obtain⟨cs,rfl,h0⟩:=zJe h;clear h;have h:=h0;clear h0;obtain⟨a1,r1,rfl,_,h⟩:=znx h;obtain⟨a2,r2,rfl,_,h⟩:=znx h;obtain⟨a3,r3,rfl,_,h⟩:=znx h;obtain⟨a4,r4,rfl,_,h⟩:=znx h;obtain rfl:=zJh h;exact⟨⟨a1,a2,a3,a4⟩,rfl⟩
end Go.Proofs.YtjalkkalhdnplaaGreat
