/-
  Contracts of functions, and calls.
-/
import Derived.Test.YtcembpbhkcbnhaaGreatB5731a42
import Derived.Lib.ConvBytes
import Derived.Laws.BytesArg
import Derived.MapKept
import Derived.Laws.LoneSync
import Derived.KernelRfl
set_option linter.unusedSimpArgs false
set_option linter.unusedVariables false
set_option maxHeartbeats 10000000
set_option maxRecDepth 100000
namespace Go.Sim
open Go (World Value Addr TypeId Act)
variable {P:Program} {C:Ctx} {S:St} {a:Act} {w:World} {ι:Inj} {R:Nat->Prop}
theorem zYS{f:Field}{fs:List Field}{n off:Nat}{d:Nat}{ls:List (Nat×Nat)}(h:ziW P n (zef P d) off (f::fs)=some ls):
    f.name≠ "_" /\ ∃m l1 l2,zaQ P f.type=some m/\f.offset+m<=n/\m≠0/\zef P d f.type (off+f.offset)=some l1/\ziW P n (zef P d) off fs=some l2/\ls=l1++l2:=by
 simp only[ziW] at h
 split at h
 ·rename_i m h1
  split at h
  ·rename_i hc;obtain⟨l1,h2,h⟩:=zabp.1 h;obtain⟨l2,h3,rfl⟩:=zabr.1 h;exact⟨hc.1,m,l1,l2,h1,hc.2.1,hc.2.2,h2,h3,rfl⟩
  ·cases h
 ·cases h
def zcd(ag:Bool)(n off:Nat)(X:Array Value):Value:=if ag then .agg (X.extract off (off+n)) else X.getD off Go.undef
def zkv(X Y:Array Value)(l:Nat×Nat):Option Bool:=
 match l.2,X[l.1]?,Y[l.1]? with
 | 0,some (.int k x),some (.int k' y)=>if k=k' then some (x==y) else none
 | 1,some (.bool x),some (.bool y)=>some (x==y)
 | 2,some (.string x),some (.string y)=>some (x==y)
 | _,_,_=>none
def zdK(X Y:Array Value):List (Nat×Nat)->Option Bool
 | []=>some true
 | l::ls=>(zkv X Y l).bind fun x=>(zdK X Y ls).map (x&& ·)
theorem zL4{X Y:Array Value}{l1 l2:List (Nat×Nat)}:∀ {r:Bool},zdK X Y (l1++l2)=some r->∃r1 r2,zdK X Y l1=some r1/\zdK X Y l2=some r2/\r=(r1&&r2):=by
 induction l1 with
 | nil=>intro r h;exact⟨true,r,rfl,h,by simp⟩
 | cons l ls ih=>
  intro r h;simp only[zabN,zdK] at h;obtain⟨x,hx,h⟩:=zabp.1 h;obtain⟨y,hy,rfl⟩:=zabr.1 h;obtain⟨r1,r2,h1,h2,rfl⟩:=ih hy;exact⟨x&&r1,r2,by simp [zdK,hx,h1],h2,by simp [Bool.and_assoc]⟩
theorem zsX{t:TypeId}{ag:Bool}{n m off o:Nat}{X:Array Value}(hag:zbi P t=some ag)(hm:zaQ P t=some m)(ho:o+m<=n)(hX:off+n<=X.size)(h0:m≠0):
    (part t (X.extract off (off+n)) o).run P w= .ok (zcd ag m (off+o) X) w:=by
 unfold part zcd;simp only[Sem.run_bind,zmA hag,Result.andThen_ok]
 cases ag with
 | true=>
  simp only[if_true,Sem.run_bind,zet hm,Result.andThen_ok,Sem.run_pure]
  congr 2
  rw[Array.extract_extract]
  congr 1
  all_goals omega
 | false=>
  have h1:(X.extract off (off+n))[o]? = some (X.getD (off+o) Go.undef):=by
   rw[Array.getElem?_extract_of_lt (by omega)];simp [zacZ,show off+o<X.size by omega]
  simp [h1]
theorem zU5{t:TypeId}(hu:P.underlying t=some .bool)(k:Nat)(x y:Bool):(Op.equalIn (k+1) t (.bool x) (.bool y)).run P w= .ok (x==y) w:=by
 unfold Op.equalIn;simp only[Sem.run_bind,run_underlying hu,Result.andThen_ok,Sem.run_pure]
theorem zU6{t:TypeId}{kk:IntKind}(hu:P.underlying t=some (.int kk))(k:Nat)(j:IntKind)(x y:Int):(Op.equalIn (k+1) t (.int j x) (.int j y)).run P w= .ok (x==y) w:=by
 unfold Op.equalIn;simp only[Sem.run_bind,run_underlying hu,Result.andThen_ok,if_true,Sem.run_pure]
theorem zU7{t:TypeId}(hu:P.underlying t=some .string)(k:Nat)(x y:ByteArray):(Op.equalIn (k+1) t (.string x) (.string y)).run P w= .ok (x==y) w:=by
 unfold Op.equalIn;simp only[Sem.run_bind,run_underlying hu,Result.andThen_ok,Sem.run_pure]
theorem zA5{X Y:Array Value}{l k:Nat}{r:Bool}(h:zkv X Y (l,k)=some r):
    (k=0/\∃j x y,X.getD l Go.undef= .int j x/\Y.getD l Go.undef= .int j y/\r=(x==y))\/(k=1/\∃x y,X.getD l Go.undef= .bool x/\Y.getD l Go.undef= .bool y/\r=(x==y))\/
    (k=2/\∃x y,X.getD l Go.undef= .string x/\Y.getD l Go.undef= .string y/\r=(x==y)):=by
 unfold zkv at h;simp only[zacZ]
 split at h
 ·rename_i h1 h2 h3;simp only at h1 h2 h3
  split at h
  ·rename_i e;subst e;cases h;exact .inl ⟨h1,_,_,_,by rw[h2];rfl,by rw[h3];rfl,rfl⟩
  ·cases h
 ·rename_i h1 h2 h3;simp only at h1 h2 h3
  cases h;exact .inr (.inl ⟨h1,_,_,by rw[h2];rfl,by rw[h3];rfl,rfl⟩)
 ·rename_i h1 h2 h3;simp only at h1 h2 h3
  cases h;exact .inr (.inr ⟨h1,_,_,by rw[h2];rfl,by rw[h3];rfl,rfl⟩)
 ·cases h
theorem zHL{α:Type}(body:α->Option Bool×PUnit->Sem (ForInStep (Option Bool×PUnit)))(res:α->Bool):∀(l:List α),(∀x∈l,(body x (none,())).run P w= .ok (if res x=true then .yield (none,()) else .done (some false,())) w)->
    (forIn l (none,()) body).run P w= .ok (if l.all res=true then (none,()) else (some false,())) w:=by
 intro l
 induction l with
 | nil=>intro _;simp
 | cons x l ih=>
  intro h;rw[List.forIn_cons,Sem.run_bind,h x (.head _)]
  cases hr:res x with
  | true=>simp [ih fun y hy=>h y (.tail _ hy),hr]
  | false=>simp [hr]
theorem zU9{X Y:Array Value}(hXY:X.size=Y.size):∀(d:Nat) (t:TypeId) (off n:Nat) (ls:List (Nat×Nat)) (r:Bool) (D':Nat),d<=D'->zef P d t off=some ls->zaQ P t=some n->n≠0->off+n<=X.size->zdK X Y ls=some r->
    ∃ag,zbi P t=some ag/\(Op.equalIn D' t (zcd ag n off X) (zcd ag n off Y)).run P w= .ok r w:=by
 intro d
 induction d with
 | zero=>intro t off n ls r D' _ h;simp [zef] at h
 | succ d ih=>
  intro t off n ls r D' hD h hn h0 hb hr;obtain⟨D'',rfl⟩:∃k,D'=k+1:=⟨D' - 1,by omega⟩;simp only[zef] at h;have one:∀ {k:Nat},ls=[(off,k)]->zkv X Y (off,k)=some r:=fun e=>by
   subst e;simp only[zdK,zab8] at hr;obtain⟨x,hx,hr⟩:=zabp.1 hr;simp only[zadF,Option.some.injEq] at hr;rw[hx,hr]
  split at h
  ·rename_i hu;have h1:=zA5 (one (by cases h;rfl));refine⟨false,by simp [zbi,hu],?_⟩
   rcases h1 with ⟨h1,_⟩|⟨_,x,y,h1,h2,rfl⟩|⟨h1,_⟩
   ·cases h1
   ·simp only[zcd,zabz,if_false,h1,h2];exact zU5 hu _ _ _
   ·cases h1
  ·rename_i hu;have h1:=zA5 (one (by cases h;rfl));refine⟨false,by simp [zbi,hu],?_⟩
   rcases h1 with ⟨_,j,x,y,h1,h2,rfl⟩|⟨h1,_⟩|⟨h1,_⟩
   ·simp only[zcd,zabz,if_false,h1,h2];exact zU6 hu _ _ _ _
   ·cases h1
   ·cases h1
  ·rename_i hu;have h1:=zA5 (one (by cases h;rfl));refine⟨false,by simp [zbi,hu],?_⟩
   rcases h1 with ⟨h1,_⟩|⟨h1,_⟩|⟨_,x,y,h1,h2,rfl⟩
   ·cases h1
   ·cases h1
   ·simp only[zcd,zabz,if_false,h1,h2];exact zU7 hu _ _ _
  ·rename_i fs hu;rw[hn] at h;simp only at h
   split at h
   ·cases h
   ·rename_i hst;refine⟨true,by simp [zbi,hu],?_⟩;unfold Op.equalIn;simp only[zcd,if_true,Sem.run_bind,run_underlying hu,Result.andThen_ok,run_program,hst,zabz,if_false];have key:∀(l:List Field) (ls:List (Nat×Nat)) (r:Bool),ziW P n (zef P d) off l=some ls->zdK X Y ls=some r->∃res:Field->Bool,
        (∀f∈l,f.name≠ "_" /\ ∃ag m,zbi P f.type=some ag/\zaQ P f.type=some m/\m≠0/\f.offset+m<=n/\∃q,(Op.equalIn D'' f.type (zcd ag m (off+f.offset) X) (zcd ag m (off+f.offset) Y)).run P w= .ok q w)/\
        r=l.all (fun f=>match zbi P f.type,zaQ P f.type with|some ag,some m=>(match (Op.equalIn D'' f.type (zcd ag m (off+f.offset) X) (zcd ag m (off+f.offset) Y)).run P w with| .ok q _=>q|_=>false)|_,_=>false):=by
     intro l
     induction l with
     | nil=>intro ls r h1 h2;simp [ziW] at h1;subst h1;simp [zdK] at h2;subst h2;exact⟨fun _=>true,by simp,by simp⟩
     | cons f l ihl=>
      intro ls r h1 h2;obtain⟨k0,m,l1,l2,k1,k2,k3,k4,k5,rfl⟩:=zYS h1;obtain⟨r1,r2,k6,k7,rfl⟩:=zL4 h2;obtain⟨_,k8,k9⟩:=ihl l2 r2 k5 k7;obtain⟨ag,k10,k11⟩:=ih f.type (off+f.offset) m l1 r1 D'' (by omega) k4 k1 k3 (by omega) k6;refine⟨fun _=>true,fun g hg=> ?_,?_⟩
      ·cases hg with
       | head=>exact⟨k0,ag,m,k10,k1,k3,k2,r1,k11⟩
       | tail _ hg=>exact k8 g hg
      ·rw[zacn, <- k9];simp only[k10,k1,k11]
    obtain⟨_,k1,k2⟩:=key fs.toList ls r h hr;rw[<- Array.forIn_toList];rw[zHL _ (fun f=>match zbi P f.type,zaQ P f.type with|some ag,some m=>(match (Op.equalIn D'' f.type (zcd ag m (off+f.offset) X) (zcd ag m (off+f.offset) Y)).run P w with| .ok q _=>q|_=>false)|_,_=>false) fs.toList fun f hf=> ?_]
    ·rw[<- k2]
     cases r<;>simp
    ·obtain⟨k0,ag,m,k3,k4,k5,k6,q,k7⟩:=k1 f hf;rw[zabo k0];simp only[Sem.run_bind,zsX k3 k4 k6 hb k5,zsX k3 k4 k6 (by rw[<- hXY];exact hb) k5,Result.andThen_ok,k7,k3,k4]
     cases q<;>simp
  ·rename_i len e hu;rw[hn] at h
   split at h
   ·rename_i n' m hn' he
    cases hn'
    split at h
    ·cases h
    ·rename_i hc;have hm0:m≠0:=fun h=>hc (.inl h);have hlen:len * m=n:=Classical.byContradiction fun h=>hc (.inr h);refine⟨true,by simp [zbi,hu],?_⟩;unfold Op.equalIn;simp only[zcd,if_true,Sem.run_bind,run_underlying hu,Result.andThen_ok,zet he];have key:∀(k base:Nat) (ls:List (Nat×Nat)) (r:Bool),zkx m (zef P d e) (off+base * m) k=some ls->zdK X Y ls=some r->base+k=len->
         (∀i∈List.range' base k,∃ag,zbi P e=some ag/\∃q,(Op.equalIn D'' e (zcd ag m (off+i * m) X) (zcd ag m (off+i * m) Y)).run P w= .ok q w)/\
         r=(List.range' base k).all (fun i=>match zbi P e with|some ag=>(match (Op.equalIn D'' e (zcd ag m (off+i * m) X) (zcd ag m (off+i * m) Y)).run P w with| .ok q _=>q|_=>false)|_=>false):=by
      intro k
      induction k with
      | zero=>intro base ls r h1 h2 _;simp [zkx] at h1;subst h1;simp [zdK] at h2;subst h2;simp
      | succ k ihk=>
       intro base ls r h1 h2 hbk;simp only[zkx] at h1;obtain⟨l1,k4,h1⟩:=zabp.1 h1;obtain⟨l2,k5,rfl⟩:=zabr.1 h1;obtain⟨r1,r2,k6,k7,rfl⟩:=zL4 h2;have k5':zkx m (zef P d e) (off+(base+1) * m) k=some l2:=by rw[zach,Nat.one_mul, <- zadx];exact k5
       obtain⟨k8,k9⟩:=ihk (base+1) l2 r2 k5' k7 (by omega);have hroom:(base+1) * m<=len * m:=zab2 _ (by omega);rw[zach] at hroom;obtain⟨ag,k10,k11⟩:=ih e (off+base * m) m l1 r1 D'' (by omega) k4 he hm0 (by omega) k6;rw[zacX];refine⟨fun i hi=> ?_,?_⟩
       ·cases hi with
        | head=>exact⟨ag,k10,r1,k11⟩
        | tail _ hi=>exact k8 i hi
       ·rw[zacn, <- k9];simp only[k10,k11]
     obtain⟨k1,k2⟩:=key len 0 ls r (by simpa using h) hr (by omega);rw[Std.Legacy.Range.forIn_eq_forIn_range'];rw[zHL _ (fun i=>match zbi P e with|some ag=>(match (Op.equalIn D'' e (zcd ag m (off+i * m) X) (zcd ag m (off+i * m) Y)).run P w with| .ok q _=>q|_=>false)|_=>false) _ fun i hi=> ?_]
     ·simp only[Std.Legacy.Range.size,zacO,Nat.add_one_sub_one,Nat.div_one];rw[<- k2]
      cases r<;>simp
     ·have hi':i∈List.range' 0 len:=by simpa [Std.Legacy.Range.size] using hi
      obtain⟨ag,k3,q,k7⟩:=k1 i hi';have hlt:i<len:=by have:=List.mem_range'.1 hi';omega
      have hroom:(i+1) * m<=len * m:=zab2 _ (by omega);rw[zach] at hroom;simp only[Sem.run_bind,zsX k3 he (show i * m+m<=n by omega) hb hm0,zsX k3 he (show i * m+m<=n by omega) (show off+n<=Y.size by rw[<- hXY];exact hb) hm0,Result.andThen_ok,k7,k3]
      cases q<;>simp
   ·cases h
  ·cases h
theorem zYR {zabm bs:List D} {xs ys:List Value} (hx:xs.length=zabm.length/\∀(i:Nat) (c:D) (u:Value),zabm[i]? = some c->xs[i]? = some u->Rd w R (.v c u))
    (hy:ys.length=bs.length/\∀(i:Nat) (c:D) (u:Value),bs[i]? = some c->ys[i]? = some u->Rd w R (.v c u)):∀ {ls:List (Nat×Nat)} {r:Bool},zgN zabm bs ls=some r->zdK xs.toArray ys.toArray ls=some r:=by
 intro ls
 induction ls with
 | nil=>intro r h;simpa [zgN,zdK] using h
 | cons l ls ih=>
  intro r h;simp only[zgN] at h;obtain⟨b,hb,h⟩:=zabp.1 h;obtain⟨b',hb',rfl⟩:=zabr.1 h;have get:∀ {zabm:List D} {xs:List Value} {c:D},(xs.length=zabm.length/\∀(i:Nat) (c:D) (u:Value),zabm[i]? = some c->xs[i]? = some u->Rd w R (.v c u))->zabm[l.1]? = some c->∃u,xs[l.1]? = some u/\Rd w R (.v c u):=by
   intro zabm xs c h1 h2;have hlt:=(zabB.1 h2).1;exact⟨_,zabx (by omega),h1.2 _ _ _ h2 (zabx (by omega))⟩
  have:zkv xs.toArray ys.toArray l=some b:=by
   unfold zvm at hb;unfold zkv
   split at hb
   ·rename_i k x k' y h1 h2 h3
    split at hb
    ·rename_i e;subst e;obtain⟨u,k1,k2⟩:=get hx h2;obtain⟨u',k3,k4⟩:=get hy h3
     cases k2;cases k4
     cases hb
     simp [h1,k1,k3,Bool.beq_eq_decide_eq]
    ·cases hb
   ·rename_i x y h1 h2 h3;obtain⟨u,k1,k2⟩:=get hx h2;obtain⟨u',k3,k4⟩:=get hy h3
    cases k2;cases k4
    cases hb
    simp [h1,k1,k3]
   ·rename_i x y h1 h2 h3;obtain⟨u,k1,k2⟩:=get hx h2;obtain⟨u',k3,k4⟩:=get hy h3
    cases k2;cases k4
    cases hb
    simp [h1,k1,k3];have:((⟨x.toArray⟩:ByteArray)==⟨y.toArray⟩)=decide (x=y):=by
     rw[zacD];show (x.toArray==y.toArray)=true↔_;simp
    simpa using this
   ·cases hb
  simp [zdK,this,ih hb']
theorem zrl {o:Oper} {bop:BinOp} {t u:TypeId} {y z:Operand} {y' z':Opd} {n:Nat} {ls:List (Nat×Nat)} {ng:Bool} {dst:Nat} {v:AV} {H':zd} (hop:o.op= .binOp bop t y z u) (hb:bop=if ng then .neq else .eql)
    (hl:zef P 9 t 0=some ls) (hag:zbi P t=some true) (hg:P.eqGuardType P.depth t=false) (hn:zaQ P t=some n) (h0:n≠0) (hy:opd y=some y') (hz:opd z=some z') (h:Rel C S a w ι R)
    (hs:zr S.env S.heap dst (.eqs ng n ls y' z')=some (v,H')):zR C S a v H' ((execOp a.eval o).run P w):=by
 simp only[zr] at hs
 split at hs
 ·rename_i zabm bs h1 h2
  split at hs
  ·rename_i hc;obtain⟨r,hr,hs⟩:=zabr.1 hs
   cases hs
   have e1:=h.ev hy;rw[h1] at e1;have e2:=h.ev hz;rw[h2] at e2;generalize hav:a.eval y=av at e1;generalize hbv:a.eval z=bv at e2;have e1:=e1.of_d;have e2:=e2.of_d
   cases e1 with
   | @agg _ xs hx1 _ hx2=>
    cases e2 with
    | @agg _ ys hy1 _ hy2=>
     have hle:=zYR ⟨hx1,hx2⟩ ⟨hy1,hy2⟩ hr;obtain⟨ag,hag',hrun⟩:=zU9 (P:=P) (w:=w) (X:=xs.toArray) (Y:=ys.toArray) (by simp;omega) 9 t 0 n ls r Op.maxDepth (by decide) hl hn h0 (by simp;omega) hle;rw[hag] at hag';cases hag';have hv:∀zs:List Value,zs.length=n->zcd true n 0 zs.toArray= .agg zs.toArray:=fun zs hz=>by
      simp only[zcd,if_true,zabU];rw[<- hz];simp
     rw[hv xs (by omega),hv ys (by omega)] at hrun;refine zR.same h (.d .bool) (u:= .bool (if ng=true then !r else r)) ?_;subst hb;have hrun':(Op.equal t (.agg xs.toArray) (.agg ys.toArray)).run P w= .ok r w:=hrun
     cases ng<;>simp [execOp,hop,hav,hbv,eqGuard,Go.binOp,hrun',hg]
  ·cases hs
 ·cases hs
end Go.Sim

namespace Go.Sim
open Go (World Value Addr TypeId Act)
variable {P:Program} {C:Ctx} {S:St} {a:Act} {w:World} {ι:Inj} {R:Nat->Prop}
theorem zGE{v:Value}{x:AV}(h:zhu v=some x)(q:Nat):x.refs q=false:=by
 unfold zhu at h
 split at h
 ·split at h
  ·cases h;rfl
  ·cases h
 ·cases h;rfl
 ·split at h
  ·cases h;rfl
  ·cases h
 ·cases h;rfl
 ·split at h
  ·cases h;rfl
  ·cases h
theorem zQj{q:Nat}{l:List AV}(h:∀x∈l,x.refs q=false):AV.refsL q l=false:=by
 induction l with
 | nil=>rfl
 | cons x l ih=>simp only[AV.refsL,h x (.head _),ih (fun y hy=>h y (.tail _ hy)),Bool.or_self]
theorem zGK{v:Value}{x:AV}(h:zfK v=some x)(q:Nat):x.refs q=false:=by
 unfold zfK at h
 split at h
 ·obtain⟨ds,h1,h2⟩:=zabr.1 h;subst h2;unfold AV.mkAgg
  split
  ·rfl
  ·refine zQj fun x hx=> ?_;obtain⟨i,hi⟩:=zab6 hx;obtain⟨hl,hg⟩:=zeT h1;have hlt:=(zabB.1 hi).1;rw[hl] at hlt;exact zGE (hg i _ x (zabx hlt) hi) q
 ·exact zGE h q
theorem zMJ{o:Operand}{x:Opd}(h:opd o=some x){E:Env}{q:Nat}(hE:zaX q E=false):(x.ev E).refs q=false:=by
 cases o with
 | tmp t=>
  simp only[opd] at h
  split at h
  ·cases h
   simp only[Opd.ev]
   cases hl:look t E with
   | none=>rfl
   | some y=>exact znm (zav hl) hE
  ·cases h
 | const v=>
  simp only[opd] at h
  split at h
  ·cases h;rfl
  ·obtain⟨y,h1,h2⟩:=zabr.1 h;subst h2;exact zGK h1 q
 | global g=>cases h
 | func f=>simp only[opd,Option.some.injEq] at h;subst h;rfl
theorem zaaF{o:Nat}{v:AV}(h:v.refs o=false):(unX v).refs o=false:=by
 cases v with
 | agg cs=>
  simp only[unX,AV.mkAgg]
  split
  ·rfl
  ·simp only[AV.refs] at h ⊢;rw[znN];refine zQj fun x hx=> ?_;obtain⟨y,hy,rfl⟩:=zaby.1 hx;have:=AV.refsL_false hy h
   cases y<;>simp_all [zjo,AV.refs]
 | _=>simp_all [unX,AV.refs]
theorem zDj{t:TypeId}{z:AV}(h:zco P t=some z)(q:Nat):z.refs q=false:=by
 unfold zco at h;obtain⟨zv,_,h2⟩:=zabp.1 h;exact zGK h2 q
theorem zj2(hr:Rel C S a w ι R){xs:List Operand}{ys:List Opd}(h:xs.mapM opd=some ys):
    (xs.map a.eval).length=(ys.map (·.ev S.env)).length/\∀(i:Nat) (x:AV) (u:Value),(ys.map (·.ev S.env))[i]? = some x->(xs.map a.eval)[i]? = some u->VA w R ι (mark S.heap) x u:=by
 obtain⟨hl,hg⟩:=zeT h;refine⟨by simp [hl],fun i x u h1 h2=> ?_⟩;rw[zabI] at h1 h2;obtain⟨y,h3,rfl⟩:=zabr.1 h1;obtain⟨o,h4,rfl⟩:=zabr.1 h2;exact hr.ev (hg i o y h4 h3)
theorem zMq{mk:Nat->Option Nat}(mx:Bool):∀ {ys:List AV} {us:List Value} {x v:AV} {u:Value},VA w R ι mk x u->us.length=ys.length->(∀(i:Nat) (y:AV) (q:Value),ys[i]? = some y->us[i]? = some q->VA w R ι mk y q)->mmD mx x ys=some v->
    ∃q,(us.foldlM (if mx then Builtin.max2 else Builtin.min2) u).run P w= .ok q w/\VA w R ι mk v q:=by
 intro ys
 induction ys with
 | nil=>
  intro us x v u hx hl _ hm;have:us=[]:=zacc.1 hl;subst this;have:x=v:=by cases x<;>simpa [mmD] using hm
  subst this;exact⟨u,by simp,hx⟩
 | cons y ys ih=>
  intro us x v u hx hl hy hm
  cases us with
  | nil=>simp at hl
  | cons u2 us=>
   have hy0:=hy 0 y u2 rfl rfl
   cases x with
   | d x0=>
    cases x0 with
    | int k n=>
     cases y with
     | d y0=>
      cases y0 with
      | int k' n'=>
       simp only[mmD] at hm
       split at hm
       ·rename_i hk;subst hk;obtain⟨rfl,h1⟩:=hx.int_inv;obtain⟨rfl,h2⟩:=hy0.int_inv;have hres:VA w R ι mk (.d (.int k (if mx then (if n<n' then n' else n) else (if n'<n then n' else n)))) (.int k (if mx then (if n<n' then n' else n) else (if n'<n then n' else n))):=
         .d (.int (by split<;>split<;>assumption))
        obtain⟨q,h3,h4⟩:=ih hres (by simpa using hl) (fun i y q k1 k2=>hy (i+1) y q (by simpa using k1) (by simpa using k2)) hm;refine⟨q,?_,h4⟩;rw[List.foldlM_cons,Sem.run_bind];have e:((if mx then Builtin.max2 else Builtin.min2) (.int k n) (.int k n')).run P w= .ok (.int k (if mx then (if n<n' then n' else n) else (if n'<n then n' else n))) w:=by
         cases mx<;>simp [Builtin.max2,Builtin.min2]
        rw[e];exact h3
       ·cases hm
      | _=>simp [mmD] at hm
     | _=>simp [mmD] at hm
    | _=>simp [mmD] at hm
   | _=>simp [mmD] at hm
theorem zt4(ds:List D):zbq (ds.map .d)=some ds:=by
 induction ds with
 | nil=>rfl
 | cons x l ih=>simp [zbq,ih]
theorem zkQ{mk:Nat->Option Nat}{t:TypeId}{ag:Bool}{off n:Nat}{zs:List AV}{c:Array Value}(h:zdu w R ι mk zs c)(hag:zbi P t=some ag)(hn:zaQ P t=some n)(hb:off+n<=zs.length):
    (ag=true->(part t c off).run P w= .ok (.agg (c.extract off (off+n))) w/\VA w R ι mk (AV.mkAgg ((zs.drop off).take n)) (.agg (c.extract off (off+n))))/\
    (ag=false->∀z,zs[off]? = some z->∃q,(part t c off).run P w= .ok q w/\VA w R ι mk z q):=by
 refine⟨fun e=> ?_,fun e z hz=> ?_⟩
 ·subst e;refine⟨by simp [part,zmA hag,zet hn],zBm ⟨by simp [h.1];omega,fun i z hi=> ?_⟩⟩;have hlt:i<n:=by have:=(zabB.1 hi).1;simp at this;omega
  rw[ztD hb hlt] at hi;obtain⟨k1,q,k2,k3⟩:=h.2 _ _ hi;refine⟨k1,q,?_,k3⟩;rw[Array.getElem?_extract,zabo (by rw[h.1];omega)];exact k2
 ·subst e;obtain⟨k1,q,k2,k3⟩:=h.2 _ _ hz;exact⟨q,by simp [part,zmA hag,k2],k3⟩
theorem bytesD_ok{es:List D}{s:List UInt8}(h:zge es=some s):∃xs:List Int,es=xs.map (.int .u8)/\s=xs.map fun n=>UInt8.ofNat n.toNat:=by
 induction es generalizing s with
 | nil=>simp [zge] at h;subst h;exact⟨[],rfl,rfl⟩
 | cons e l ih=>
  unfold zge at h
  split at h
  ·cases ‹_::_=[]›
  ·rename_i n l' he
   cases he
   obtain⟨s',h1,rfl⟩:=zabr.1 h;obtain⟨xs,rfl,rfl⟩:=ih h1;exact⟨n::xs,rfl,rfl⟩
  ·cases h
theorem zRr{t:TypeId}{z:AV}{i:TypeInfo}(h:zco P t=some z)(hi:P.info? t=some i):∃zv,i.zero=some zv/\zv.cells.size=z.size:=by
 unfold zco at h;obtain⟨zv,h1,h2⟩:=zabp.1 h;rw[hi] at h1;exact⟨zv,h1,(zTi h2).symm⟩
theorem zR3{E:Env}{H:zd}{dst n:Nat}{ys:List D}{x:AV}{r:AV×zd}(h:zcf E H dst n ys x=some r):∀e∈ys,e.size=n:=by
 cases x with
 | xsl es=>
  simp only[zcf] at h
  split at h
  ·rename_i hh;have h0:ys=[]:=by simp at hh;exact hh.1
   subst h0;exact fun e he=>absurd he (by simp)
  split at h
  ·rename_i hh;exact fun e he=>zjK hh.1 e (zadn _ he)
  ·cases h
 | acc o es=>
  simp only[zcf] at h
  split at h
  ·split at h
   ·rename_i hh;exact fun e he=>zjK hh.2.1 e (zadn _ he)
   ·cases h
  ·cases h
 | _=>simp [zcf] at h
theorem z06{o:Oper}{x:AOp}{dst:Nat}(y:Operand)(hop:o.op= .move y)(hc:z9 P (.move y)=some x)(h:Rel C S a w ι R){v:AV}{H':zd}(hs:zr S.env S.heap dst x=some (v,H')):zR C S a v H' ((execOp a.eval o).run P w):=by
 have same:∀ {v:AV} {u:Value} {r:Result Next},VA w R ι (mark S.heap) v u->r= .ok (.value u) w->zR C S a v S.heap r:=fun hv hr=>zR.same h hv hr;obtain⟨z,hz,rfl⟩:=zabr.1 hc;simp only[zr,Option.some.injEq,Prod.mk.injEq] at hs;obtain⟨rfl,rfl⟩:=hs;exact same (h.ev hz) (by simp [execOp,hop])
theorem z0u{o:Oper}{x:AOp}{dst:Nat}(y:Operand)(hop:o.op= .assign y)(hc:z9 P (.assign y)=some x)(h:Rel C S a w ι R){v:AV}{H':zd}(hs:zr S.env S.heap dst x=some (v,H')):zR C S a v H' ((execOp a.eval o).run P w):=by
 have same:∀ {v:AV} {u:Value} {r:Result Next},VA w R ι (mark S.heap) v u->r= .ok (.value u) w->zR C S a v S.heap r:=fun hv hr=>zR.same h hv hr;obtain⟨z,hz,rfl⟩:=zabr.1 hc;simp only[zr,Option.some.injEq,Prod.mk.injEq] at hs;obtain⟨rfl,rfl⟩:=hs;exact same (h.ev hz) (by simp [execOp,hop])
theorem z08{o:Oper}{x:AOp}{dst:Nat}(c y z:Operand)(hop:o.op= .pick c y z)(hc:z9 P (.pick c y z)=some x)(h:Rel C S a w ι R){v:AV}{H':zd}(hs:zr S.env S.heap dst x=some (v,H')):zR C S a v H' ((execOp a.eval o).run P w):=by
 have same:∀ {v:AV} {u:Value} {r:Result Next},VA w R ι (mark S.heap) v u->r= .ok (.value u) w->zR C S a v S.heap r:=fun hv hr=>zR.same h hv hr;simp only[z9,zabT,zabW] at hc;obtain⟨c',hc',hc⟩:=zabp.1 hc;obtain⟨y',hy',hc⟩:=zabp.1 hc;obtain⟨z',hz',hc⟩:=zabp.1 hc
 cases hc
 simp only[zr] at hs
 split at hs
 ·rename_i t ht
  cases hs
  have hb:=h.ev hc';rw[ht] at hb;have hb:=hb.bool_inv;refine same (u:=if t then a.eval y else a.eval z) (by cases t;exact h.ev hz';exact h.ev hy') ?_;simp [execOp,hop,hb,asBool]
 ·cases hs
theorem z0q{o:Oper}{x:AOp}{dst:Nat}(t:TypeId)(hop:o.op= .alloc t)(hc:z9 P (.alloc t)=some x)(h:Rel C S a w ι R){v:AV}{H':zd}(hs:zr S.env S.heap dst x=some (v,H')):zR C S a v H' ((execOp a.eval o).run P w):=by
 have same:∀ {v:AV} {u:Value} {r:Result Next},VA w R ι (mark S.heap) v u->r= .ok (.value u) w->zR C S a v S.heap r:=fun hv hr=>zR.same h hv hr;simp only[z9,zabT,zabW] at hc;obtain⟨z,hz,hc⟩:=zabp.1 hc
 split at hc
 ·cases hc
 ·rename_i h0
  cases hc
  simp only[zr] at hs
  split at hs
  ·rename_i hu
   cases hs
   obtain⟨zv,h1,h2,_⟩:=znQ hz (zjq hz) w R ι (mark S.heap);obtain⟨k1,k2⟩:=h.newVar t hu h2 (zjq hz) h0 (zDj hz dst);exact⟨_,_,_,_,.inl (by simp [execOp,hop,Instr.alloc,h1,newVar,Go.newRow]),k1,k2⟩
  ·cases hs
theorem z0N{o:Oper}{x:AOp}{dst:Nat}(t:TypeId)(y:Operand)(hop:o.op= .box t y)(hc:z9 P (.box t y)=some x)(h:Rel C S a w ι R){v:AV}{H':zd}(hs:zr S.env S.heap dst x=some (v,H')):zR C S a v H' ((execOp a.eval o).run P w):=by
 have same:∀ {v:AV} {u:Value} {r:Result Next},VA w R ι (mark S.heap) v u->r= .ok (.value u) w->zR C S a v S.heap r:=fun hv hr=>zR.same h hv hr;obtain⟨z,hz,rfl⟩:=zabr.1 hc;simp only[zr] at hs
 split at hs
 ·rename_i hu;obtain⟨hu1,hu2,hu3,hu4⟩:=hu
  cases hs
  obtain⟨k1,k2⟩:=h.newVar t ⟨hu1,hu2⟩ (h.ev hz) hu3 hu4 (zMJ hz hu1);exact⟨_,_,_,_,.inl (by simp [execOp,hop,Instr.box,newVar,Go.newRow]),k1,k2⟩
 ·cases hs
theorem z00{o:Oper}{x:AOp}{dst:Nat}(t:TypeId)(p:Operand)(hop:o.op= .load t p)(hc:z9 P (.load t p)=some x)(h:Rel C S a w ι R){v:AV}{H':zd}(hs:zr S.env S.heap dst x=some (v,H')):zR C S a v H' ((execOp a.eval o).run P w):=by
 have same:∀ {v:AV} {u:Value} {r:Result Next},VA w R ι (mark S.heap) v u->r= .ok (.value u) w->zR C S a v S.heap r:=fun hv hr=>zR.same h hv hr;simp only[z9,zabT,zabW] at hc;obtain⟨n,hn,hc⟩:=zabp.1 hc
 split at hc
 ·cases hc
 ·rename_i h0;obtain⟨ag,hag,hc⟩:=zabp.1 hc;obtain⟨p',hp',hc⟩:=zabp.1 hc
  cases hc
  simp only[zr] at hs;obtain⟨v',hv',hs⟩:=zabr.1 hs
  cases hs
  have hp:=h.ev hp';obtain⟨b,off,u,hpv,hrun,hva⟩:∃b off u,a.eval p= .pointer (some ⟨b,off,none⟩)/\(loadVar t ⟨b,off,none⟩).run P w= .ok u w/\VA w R ι (mark S.heap) v u:=by
   generalize p'.ev S.env=pa at hv' hp
   cases pa with
   | d y=>
    cases y with
    | pd y=>
     simp only[ldA] at hv';obtain⟨y',hy',rfl⟩:=zabr.1 hv';obtain⟨b,off,hpv,hR,hel⟩:=hp.pd_inv;obtain⟨u,k1,k2⟩:=hel.load hy' h0 hag hn;exact⟨b,off,u,hpv,k1,.d k2⟩
    | _=>simp [ldA] at hv'
   | pe q y=>
    simp only[ldA] at hv';obtain⟨y',hy',rfl⟩:=zabr.1 hv';generalize a.eval p=pv at hp
    cases hp with
    | peR hR hel=>obtain⟨u,k1,k2⟩:=hel.load hy' h0 hag hn;exact⟨_,_,u,rfl,k1,.d k2⟩
    | peC _ _ _ _ hel=>obtain⟨u,k1,k2⟩:=hel.load hy' h0 hag hn;exact⟨_,_,u,rfl,k1,.d k2⟩
   | ref q i off=>
    simp only[ldA] at hv'
    split at hv'
    ·rename_i es hes;obtain⟨e,he,hpart⟩:=zabp.1 hv';generalize a.eval p=pv at hp
     cases hp with
     | @ref _ _ _ b s hι _=>
      cases h.heap _ _ (zav hes) with
      | row hι' _ hb _ _ _ hcell=>
       rw[hι] at hι';cases hι';have hel:ElA w R ι (mark S.heap) e b (i * s):=fun j x hj=>by
        obtain⟨k1,q,k2,k3⟩:=hcell i e he j x hj;exact⟨k1,q,by rw[zcq hb];exact k2,k3⟩
       obtain⟨u,k1,k2⟩:=hel.load hpart h0 hag hn;exact⟨_,_,u,rfl,k1,k2⟩
    ·cases hv'
   | _=>simp [ldA] at hv'
  exact same hva (by simp [execOp,hop,hpv,Instr.loadAt,Instr.sureAddr,hrun])
theorem z4s{o:Oper}{x:AOp}{dst:Nat}(t:TypeId)(p y:Operand)(hop:o.op= .store t p y)(hc:z9 P (.store t p y)=some x)(h:Rel C S a w ι R){v:AV}{H':zd}(hs:zr S.env S.heap dst x=some (v,H')):zR C S a v H' ((execOp a.eval o).run P w):=by
 have same:∀ {v:AV} {u:Value} {r:Result Next},VA w R ι (mark S.heap) v u->r= .ok (.value u) w->zR C S a v S.heap r:=fun hv hr=>zR.same h hv hr;simp only[z9,zabT,zabW] at hc;obtain⟨n,hn,hc⟩:=zabp.1 hc
 split at hc
 ·cases hc
 ·rename_i h0;obtain⟨p',hp',hc⟩:=zabp.1 hc;obtain⟨y',hy',hc⟩:=zabp.1 hc
  cases hc
  simp only[zr] at hs
  split at hs
  ·rename_i q i off hpa
   split at hs
   ·rename_i hh
    split at hs
    ·rename_i es hes;obtain⟨e,he,hs⟩:=zabp.1 hs;obtain⟨e',he',hs⟩:=zabr.1 hs
     cases hs
     have hp:=h.ev hp';rw[hpa] at hp;obtain⟨w',hrun,hrel⟩:=h.store hes he he' (h.ev hy') hh.2 hh.1 hn hp;exact⟨Go.undef,w',ι,R,.inr ⟨by simp [execOp,hop,hrun],rfl⟩,hrel,.undef⟩
    ·cases hs
   ·cases hs
  ·cases hs
theorem z07{o:Oper}{x:AOp}{dst:Nat}(y:Operand)(hop:o.op= .nilCheck y)(hc:z9 P (.nilCheck y)=some x)(h:Rel C S a w ι R){v:AV}{H':zd}(hs:zr S.env S.heap dst x=some (v,H')):zR C S a v H' ((execOp a.eval o).run P w):=by
 have same:∀ {v:AV} {u:Value} {r:Result Next},VA w R ι (mark S.heap) v u->r= .ok (.value u) w->zR C S a v S.heap r:=fun hv hr=>zR.same h hv hr;obtain⟨z,hz,rfl⟩:=zabr.1 hc;have hv:=h.ev hz;simp only[zr] at hs
 split at hs
 ·rename_i heq
  cases hs
  rw[heq] at hv;generalize hav:a.eval y=av at hv
  cases hv with
  | ref k1 k2=>exact same (.ref k1 k2) (by simp [execOp,hop,hav])
 ·rename_i heq
  cases hs
  rw[heq] at hv;obtain⟨b,off,hav,_,_⟩:=hv.pd_inv;exact same hv (by simp [execOp,hop,hav])
 ·rename_i heq
  cases hs
  rw[heq] at hv;have hav:∃f vs,a.eval y= .func (.func f) #[] vs:=by
   generalize a.eval y=av at hv
   cases hv with
   | d hv=>cases hv;exact⟨_,_,rfl⟩
  obtain⟨f,vs,hav⟩:=hav;exact same hv (by simp [execOp,hop,hav])
 ·rename_i heq
  cases hs
  rw[heq] at hv;have hav:∃p,a.eval y= .pointer (some p):=by
   generalize a.eval y=av at hv
   cases hv<;>exact⟨_,rfl⟩
  obtain⟨p,hav⟩:=hav;exact same hv (by simp [execOp,hop,hav])
 ·rename_i heq
  cases hs
  rw[heq] at hv;have hav:∃f vs,a.eval y= .func (.func f) #[] vs:=by
   generalize a.eval y=av at hv
   cases hv;exact⟨_,_,rfl⟩
  obtain⟨f,vs,hav⟩:=hav;exact same hv (by simp [execOp,hop,hav])
 ·cases hs
theorem z0M{o:Oper}{x:AOp}{dst:Nat}(bop:BinOp)(t:TypeId)(y z:Operand)(u:TypeId)(hop:o.op= .binOp bop t y z u)(hc:z9 P (.binOp bop t y z u)=some x)(h:Rel C S a w ι R){v:AV}{H':zd}(hs:zr S.env S.heap dst x=some (v,H')):zR C S a v H' ((execOp a.eval o).run P w):=by
 have same:∀ {v:AV} {u:Value} {r:Result Next},VA w R ι (mark S.heap) v u->r= .ok (.value u) w->zR C S a v S.heap r:=fun hv hr=>zR.same h hv hr;simp only[z9] at hc;have plain:∀ {y' z':Opd},opd y=some y'->opd z=some z'->zr S.env S.heap dst (.bin bop y' z')=some (v,H')->zR C S a v H' ((execOp a.eval o).run P w):=by
  intro y' z' hy' hz' hs;simp only[zr] at hs
  split at hs
  ·rename_i da db hda hdb;obtain⟨r,hr,hs⟩:=zabr.1 hs
   cases hs
   have h1:=h.ev hy';have h2:=h.ev hz';rw[hda] at h1;rw[hdb] at h2;have guard:∀(p q:Value),(∀cs,p≠ .agg cs)->p≠ .nilIface->(eqGuard bop t y z p q).run P w= .ok () w:=by
    intro p q hp1 hp2;unfold eqGuard
    cases bop<;>simp<;>(cases p<;>first|(exact absurd rfl hp2)|(exact absurd rfl (hp1 _))|simp)
   have fin:∀(p q r':Value),a.eval y=p->a.eval z=q->(∀cs,p≠ .agg cs)->p≠ .nilIface->(Go.binOp bop t p q).run P w= .ok r' w->Rd w R (.v r r')->zR C S a (.d r) S.heap ((execOp a.eval o).run P w):=by
    intro p q r' e1 e2 hp1 hp2 hrun hrd;exact same (.d hrd) (by simp [execOp,hop,e1,e2,guard p q hp1 hp2,hrun])
   cases da with
   | int k n=>
    obtain⟨e1,hn⟩:=h1.int_inv
    cases db with
    | int k' n'=>
     obtain⟨e2,hn'⟩:=h2.int_inv
     by_cases hsh:bop= .shl\/bop= .shr
     ·have:zk9 bop k n n'=some r:=by rcases hsh with rfl|rfl<;>simpa [zgI] using hr
      obtain⟨r',k1,k2⟩:=z9f (P:=P) (k':=k') this hn t w;exact fin _ _ r' e1 e2 (by simp) (by simp) k1 (k2 _ _)
     ·have hkk:k=k'/\zcI bop k n n'=some r:=by
         cases bop<;>simp only[zgI] at hr<;>first
          | (split at hr
             ·rename_i hk;exact⟨hk,hr⟩
             ·cases hr)
          | exact absurd (.inl rfl) hsh
          | exact absurd (.inr rfl) hsh
      obtain⟨rfl,hib⟩:=hkk;obtain⟨r',k1,k2⟩:=zX5 (P:=P) (T:=t) hib hn ⟨fun e=>hsh (.inl e),fun e=>hsh (.inr e)⟩ w;exact fin _ _ r' e1 e2 (by simp) (by simp) k1 (k2 _ _)
    | _=>simp [zgI] at hr
   | str s=>
    obtain⟨e1,_⟩:=h1.str_inv
    cases db with
    | str s'=>
     obtain⟨e2,_⟩:=h2.str_inv;obtain⟨r',k1,k2⟩:=z9U (P:=P) (show znG bop s s'=some r by simpa [zgI] using hr) t w;exact fin _ _ r' e1 e2 (by simp) (by simp) k1 (k2 _ _)
    | _=>simp [zgI] at hr
   | _=>simp [zgI] at hr
  ·cases hs
 split at hc
 ·obtain⟨y',hy',hc⟩:=zabp.1 hc;obtain⟨z',hz',hc⟩:=zabp.1 hc
  cases hc
  exact plain hy' hz' hs
 ·obtain⟨y',hy',hc⟩:=zabp.1 hc;obtain⟨z',hz',hc⟩:=zabp.1 hc
  cases hc
  exact plain hy' hz' hs
 ·rename_i fs hu
  split at hc
  ·rename_i ls n hl hn
   split at hc
   ·cases hc
   ·rename_i hg;have hg1:P.eqGuardType P.depth t=false:=by simpa using fun e=>hg (.inl e)
    have hg2:n≠0:=fun e=>hg (.inr e)
    split at hc
    ·obtain⟨y',hy',hc⟩:=zabp.1 hc;obtain⟨z',hz',hc⟩:=zabp.1 hc
     cases hc
     exact zrl (ng:=false) hop rfl hl (by simp [zbi,hu]) hg1 hn hg2 hy' hz' h hs
    ·obtain⟨y',hy',hc⟩:=zabp.1 hc;obtain⟨z',hz',hc⟩:=zabp.1 hc
     cases hc
     exact zrl (ng:=true) hop rfl hl (by simp [zbi,hu]) hg1 hn hg2 hy' hz' h hs
    ·cases hc
  ·cases hc
 ·rename_i len e hu
  split at hc
  ·rename_i ls n hl hn
   split at hc
   ·cases hc
   ·rename_i hg;have hg1:P.eqGuardType P.depth t=false:=by simpa using fun e=>hg (.inl e)
    have hg2:n≠0:=fun e=>hg (.inr e)
    split at hc
    ·obtain⟨y',hy',hc⟩:=zabp.1 hc;obtain⟨z',hz',hc⟩:=zabp.1 hc
     cases hc
     exact zrl (ng:=false) hop rfl hl (by simp [zbi,hu]) hg1 hn hg2 hy' hz' h hs
    ·obtain⟨y',hy',hc⟩:=zabp.1 hc;obtain⟨z',hz',hc⟩:=zabp.1 hc
     cases hc
     exact zrl (ng:=true) hop rfl hl (by simp [zbi,hu]) hg1 hn hg2 hy' hz' h hs
    ·cases hc
  ·cases hc
 ·split at hc
  ·split at hc
   ·obtain⟨y',hy',hc⟩:=zabr.1 hc;subst hc;simp [zr] at hs
   ·obtain⟨y',hy',hc⟩:=zabr.1 hc;subst hc;simp [zr] at hs
   ·cases hc
  ·cases hc
 ·cases hc
theorem z4w{o:Oper}{x:AOp}{dst:Nat}(uop:UnOp)(t:TypeId)(y:Operand)(hop:o.op= .unOp uop t y)(hc:z9 P (.unOp uop t y)=some x)(h:Rel C S a w ι R){v:AV}{H':zd}(hs:zr S.env S.heap dst x=some (v,H')):zR C S a v H' ((execOp a.eval o).run P w):=by
 have same:∀ {v:AV} {u:Value} {r:Result Next},VA w R ι (mark S.heap) v u->r= .ok (.value u) w->zR C S a v S.heap r:=fun hv hr=>zR.same h hv hr;obtain⟨z,hz,rfl⟩:=zabr.1 hc;have hv:=h.ev hz;simp only[zr] at hs
 split at hs
 ·rename_i b heq
  cases hs
  rw[heq] at hv;have e:=hv.bool_inv;exact same (u:= .bool (!b)) (.d .bool) (by simp [execOp,hop,e,Op.unary])
 ·cases hs
theorem z0R{o:Oper}{x:AOp}{dst:Nat}(s t:TypeId)(y:Operand)(hop:o.op= .convert s t y)(hc:z9 P (.convert s t y)=some x)(h:Rel C S a w ι R){v:AV}{H':zd}(hs:zr S.env S.heap dst x=some (v,H')):zR C S a v H' ((execOp a.eval o).run P w):=by
 have same:∀ {v:AV} {u:Value} {r:Result Next},VA w R ι (mark S.heap) v u->r= .ok (.value u) w->zR C S a v S.heap r:=fun hv hr=>zR.same h hv hr;simp only[z9] at hc
 split at hc
 ·rename_i k hus hut;obtain⟨z,hz,rfl⟩:=zabr.1 hc;have hv:=h.ev hz;simp only[zr] at hs
  split at hs
  ·rename_i k' n heq
   cases hs
   rw[heq] at hv;have e:=hv.int_inv.1;exact same (u:= .int _ (IntKind.wrap _ n)) (.d (.int (zfc _ _))) (by simp [execOp,hop,e,Go.convert,run_underlying hus,run_underlying hut,Conv.intToInt])
  ·cases hs
 ·rename_i e hus hut
  split at hc
  ·rename_i he;have he:P.underlying e=some (.int .u8):=by
    cases hq:P.underlying e with
    | none=>simp [hq] at he
    | some d=>cases d<;>simp [hq] at he<;>(rename_i k;cases k<;>simp at he)<;>rfl
   obtain⟨z,hz,rfl⟩:=zabr.1 hc;have hv:=h.ev hz;simp only[zr] at hs;obtain⟨es,hes,hs⟩:=zabp.1 hs;obtain⟨s',hs',hs⟩:=zabr.1 hs
   cases hs
   obtain⟨xs,rfl,rfl⟩:=bytesD_ok hs';have fin:∀(ao:Option Addr) (cap:Nat),a.eval y= .slice ao xs.length cap->xs.length<=LIM->(∀b off,ao=some ⟨b,off,none⟩->∀i,i<xs.length->w.cell? ⟨b,off+i,none⟩=some (.int .u8 (xs.getD i 0)))->(xs≠[]->∃b off,ao=some ⟨b,off,none⟩)->
       zR C S a (.d (.str (xs.map fun n=>UInt8.ofNat n.toNat))) S.heap ((execOp a.eval o).run P w):=by
    intro ao cap hav hL hcell hne;have hrd:Rd w R (.v (.str (xs.map fun n=>UInt8.ofNat n.toNat)) (.string (strOfNums xs))):= .str (by simpa using hL)
    by_cases h0:xs=[]
    ·subst h0;refine same (.d hrd) ?_;have e0:strOfNums []= .empty:=rfl
     cases ao with
     | none=>simp [execOp,hop,hav,Go.convert,run_underlying hus,run_underlying hut,run_underlying he,Conv.bytesToString,e0]
     | some b=>
      have hl:(loadCells b 0).run P w= .ok #[] w:=by simpa using run_loadCells_list (P:=P) w b [] (by simp)
      simp [execOp,hop,hav,Go.convert,run_underlying hus,run_underlying hut,run_underlying he,Conv.bytesToString,e0,hl]
    ·obtain⟨b,off,rfl⟩:=hne h0;have hrun:=run_convert_bytes_arg (P:=P) w s e hus he b off xs.length cap xs rfl (hcell b off rfl) t hut;exact same (.d hrd) (by simp [execOp,hop,hav,hrun])
   have elc:∀(b off st:Nat),(∀x∈xs.map (D.int .u8),x.size=st)->(∀(i:Nat) (x:D),(xs.map (D.int .u8))[i]? = some x->Rd w R (.el x b (off+i * st)))->∀i,i<xs.length->w.cell? ⟨b,off+i,none⟩=some (.int .u8 (xs.getD i 0)):=by
    intro b off st hst hel i hi;have hx:(xs.map (D.int .u8))[i]? = some (.int .u8 xs[i]):=by simp [hi]
    have h1:st=1:=(hst _ (zabK hx)).symm;subst h1;obtain⟨_,q,k2,k3⟩:=(hel i _ hx).v_of_cells 0 (.int .u8 xs[i]) rfl
    cases k3
    rw[Nat.mul_one,zacI] at k2;rw[k2];simp [hi]
   have data:∀ {u:Value},u=a.eval y->Rd w R (.v (.sl (xs.map (D.int .u8))) u)->zR C S a (.d (.str (xs.map fun n=>UInt8.ofNat n.toNat))) S.heap ((execOp a.eval o).run P w):=by
    intro u hu hrd
    by_cases h0:xs=[]
    ·subst h0;obtain⟨ao,cap,hq,_,_⟩:=hrd.sl_len;exact fin ao cap (by rw[<- hu,hq];rfl) (by simp) (fun _ _ _ i hi=>absurd hi (by simp)) (fun h=>absurd rfl h)
    ·obtain⟨b,off,st,cap,hq,_,_,hL,_,hst,hel⟩:=hrd.sl_inv (by simpa using h0);exact fin (some ⟨b,off,none⟩) cap (by rw[<- hu,hq];simp) (by simpa using hL) (fun b' off' e i hi=>by cases e;exact elc b off st hst hel i hi) (fun _=>⟨_,_,rfl⟩)
   generalize hpa:z.ev S.env=pa at hv hes;generalize hav:a.eval y=av at hv
   cases hv with
   | d hv=>
    rename_i dx
    cases dx with
    | sl es=>simp only[slD,Option.some.injEq] at hes;subst hes;exact data hav.symm hv
    | _=>simp [slD] at hes
   | xsl hv=>simp only[slD,Option.some.injEq] at hes;subst hes;exact data hav.symm hv
   | @accR _ b off st cap es hR hs'' hL hl hsz hh hm=>
    simp only[slD,Option.some.injEq] at hes;subst hes;exact fin (some ⟨b,off,none⟩) cap (by rw[hav];simp) (by simpa using hL) (fun b off e i hi=>by cases e;exact elc _ _ _ hsz hh i hi) (fun _=>⟨_,_,rfl⟩)
   | @accC _ b st m cap es c T a1 a2 a3 hL a5 hsz a7 a8 hh=>
    simp only[slD,Option.some.injEq] at hes;subst hes;exact fin (some ⟨b,0,none⟩) cap (by rw[hav];simp) (by simpa using hL) (fun b off e i hi=>by cases e;exact elc _ 0 _ hsz (fun i x hx=>by rw[zabU];exact hh i x hx) i hi) (fun _=>⟨_,_,rfl⟩)
   | acc0=>
    simp only[slD,Option.some.injEq] at hes;have h0:xs=[]:=by cases xs with|nil=>rfl|cons=>cases hes
    subst h0;exact fin _ 0 hav (by simp) (fun _ _ _ i hi=>absurd hi (by simp)) (fun h=>absurd rfl h)
   | _=>simp [slD] at hes
  ·cases hc
 ·cases hc
theorem z02{o:Oper}{x:AOp}{dst:Nat}(fn:Fn)(first cs:Array Operand)(hop:o.op= .makeFunc fn first cs)(hc:z9 P (.makeFunc fn first cs)=some x)(h:Rel C S a w ι R){v:AV}{H':zd}(hs:zr S.env S.heap dst x=some (v,H')):zR C S a v H' ((execOp a.eval o).run P w):=by
 have same:∀ {v:AV} {u:Value} {r:Result Next},VA w R ι (mark S.heap) v u->r= .ok (.value u) w->zR C S a v S.heap r:=fun hv hr=>zR.same h hv hr
 cases fn with
 | func f=>
  simp only[z9] at hc
  split at hc
  ·rename_i h0;simp only[zabT,zabW] at hc;obtain⟨cs',hcs',hc⟩:=zabp.1 hc
   cases hc
   simp only[zr,Option.some.injEq,Prod.mk.injEq] at hs;obtain⟨rfl,rfl⟩:=hs;obtain⟨hl,hg⟩:=zj2 h hcs';have hva:=VA.mkFn (w:=w) (R:=R) (ι:=ι) (mk:=mark S.heap) (f:=f) (cs:=cs'.map (·.ev S.env)) (vs:=cs.toList.map a.eval) hl hg;have e:(cs.toList.map a.eval).toArray=cs.map a.eval:=by apply Array.ext';simp
   rw[e] at hva;have e0:first= #[]:=Array.eq_empty_of_size_eq_zero h0
   subst e0;exact same hva (by simp [execOp,hop,Instr.makeFunc])
  ·cases hc
 | _=>simp [z9] at hc
theorem z0U{o:Oper}{x:AOp}{dst:Nat}(t:TypeId)(y:Operand)(f:Nat)(hop:o.op= .fieldAddr t y f)(hc:z9 P (.fieldAddr t y f)=some x)(h:Rel C S a w ι R){v:AV}{H':zd}(hs:zr S.env S.heap dst x=some (v,H')):zR C S a v H' ((execOp a.eval o).run P w):=by
 have same:∀ {v:AV} {u:Value} {r:Result Next},VA w R ι (mark S.heap) v u->r= .ok (.value u) w->zR C S a v S.heap r:=fun hv hr=>zR.same h hv hr;simp only[z9] at hc
 split at hc
 ·rename_i fs hu;simp only[zabT,zabW] at hc;obtain⟨fd,hfd,hc⟩:=zabp.1 hc;obtain⟨n,hn,hc⟩:=zabp.1 hc
  split at hc
  ·cases hc
  ·rename_i h0;obtain⟨ag,hag,hc⟩:=zabp.1 hc;obtain⟨y',hy',hc⟩:=zabp.1 hc
   cases hc
   simp only[zr] at hs;obtain⟨v',hv',hs⟩:=zabr.1 hs
   cases hs
   obtain⟨b,off,hav,hva⟩:=zHx (h.ev hy') hv' h0;refine same hva ?_;simp [execOp,hop,hav,Instr.fieldAt,run_underlying hu,hfd,Instr.sureAddr,fieldPlace,zet hn,h0,Addr.add_mid]
 ·cases hc
theorem zrq {o:Oper} {t:TypeId} {y:Operand} {f:Nat} {fs:Array Field} {fd:Field} {vs:Array Value} {q:Value} (hop:o.op= .field t y f) (hav:a.eval y= .agg vs) (hu:P.underlying t=some (.struct fs)) (hfd:fs[f]? = some fd)
    (hp:(part fd.type (Value.agg vs).cells fd.offset).run P w= .ok q w):(execOp a.eval o).run P w= .ok (.value q) w:=by
 simp only[Value.cells] at hp;simp [execOp,hop,hav,Instr.field,run_underlying hu,hfd,asAgg,hp]
theorem z0T{o:Oper}{x:AOp}{dst:Nat}(t:TypeId)(y:Operand)(f:Nat)(hop:o.op= .field t y f)(hc:z9 P (.field t y f)=some x)(h:Rel C S a w ι R){v:AV}{H':zd}(hs:zr S.env S.heap dst x=some (v,H')):zR C S a v H' ((execOp a.eval o).run P w):=by
 have same:∀ {v:AV} {u:Value} {r:Result Next},VA w R ι (mark S.heap) v u->r= .ok (.value u) w->zR C S a v S.heap r:=fun hv hr=>zR.same h hv hr;simp only[z9] at hc
 split at hc
 ·rename_i fs hu;simp only[zabT,zabW] at hc;obtain⟨fd,hfd,hc⟩:=zabp.1 hc;obtain⟨n,hn,hc⟩:=zabp.1 hc
  split at hc
  ·cases hc
  ·rename_i h0;obtain⟨ag,hag,hc⟩:=zabp.1 hc;obtain⟨y',hy',hc⟩:=zabp.1 hc
   cases hc
   have hv:=h.ev hy';simp only[zr] at hs
   split at hs
   ·rename_i cs heq;obtain⟨v',hv',hs⟩:=zabr.1 hs
    cases hs
    rw[heq] at hv;obtain⟨c1,c2⟩:=hv.cells rfl;have hcells:zdu w R ι (mark S.heap) (cs.map .d) (a.eval y).cells:=⟨by rw[c1];simp [AV.size,D.size,D.cells],c2⟩;have hagg:∃vs,a.eval y= .agg vs:=by
     have:=hv.of_d;generalize a.eval y=av at this
     cases this;exact⟨_,rfl⟩
    obtain⟨vs,hav⟩:=hagg;rw[hav] at hcells;obtain⟨h1,h2⟩:=zhb hv' h0;obtain⟨p1,p2⟩:=zkQ hcells hag hn (by simpa [D.size,D.cells] using h1)
    rcases h2 with ⟨rfl,rfl⟩|⟨rfl,_,h3⟩
    ·obtain⟨p3,p4⟩:=p1 rfl;have e1:AV.mkAgg ((List.map AV.d cs).drop fd.offset |>.take n)= .d (.agg ((cs.drop fd.offset).take n)):=by
      have e2:((List.map AV.d cs).drop fd.offset).take n=((cs.drop fd.offset).take n).map .d:=by rw[zac7,zadO]
      rw[e2];unfold AV.mkAgg;rw[zt4]
     rw[e1] at p4;exact same p4 (zrq hop hav hu hfd p3)
    ·obtain⟨q,p3,p4⟩:=p2 rfl (.d v') (by rw[zabI,show cs[fd.offset]? = some v' from h3];rfl);exact same p4 (zrq hop hav hu hfd p3)
   ·rename_i cs heq;obtain⟨v',hv',hs⟩:=zabr.1 hs
    cases hs
    rw[heq] at hv;obtain⟨c1,c2⟩:=hv.cells rfl;have hcells:zdu w R ι (mark S.heap) cs (a.eval y).cells:=⟨c1,c2⟩;have hagg:∃vs,a.eval y= .agg vs:=by
     generalize a.eval y=av at hv
     cases hv;exact⟨_,rfl⟩
    obtain⟨vs,hav⟩:=hagg;rw[hav] at hcells;simp only[zep] at hv'
    split at hv'
    ·rename_i hagt
     split at hv'
     ·rename_i hb
      cases hv'
      obtain⟨p3,p4⟩:=(zkQ hcells hag hn hb).1 hagt;exact same p4 (zrq hop hav hu hfd p3)
     ·cases hv'
    ·rename_i hagf
     split at hv'
     ·rename_i hn1;have hlt:=(zabB.1 hv').1;have hlt:fd.offset<cs.length:=hlt;obtain⟨q,p3,p4⟩:=(zkQ hcells hag hn (by omega)).2 (by simpa using hagf) _ hv';exact same p4 (zrq hop hav hu hfd p3)
     ·cases hv'
   ·cases hs
 ·cases hc
theorem z0W{o:Oper}{x:AOp}{dst:Nat}(t:TypeId)(y i:Operand)(hop:o.op= .indexAddr t y i)(hc:z9 P (.indexAddr t y i)=some x)(h:Rel C S a w ι R){v:AV}{H':zd}(hs:zr S.env S.heap dst x=some (v,H')):zR C S a v H' ((execOp a.eval o).run P w):=by
 have same:∀ {v:AV} {u:Value} {r:Result Next},VA w R ι (mark S.heap) v u->r= .ok (.value u) w->zR C S a v S.heap r:=fun hv hr=>zR.same h hv hr;simp only[z9] at hc
 split at hc
 ·rename_i e hu;simp only[zabT,zabW] at hc;obtain⟨n,hn,hc⟩:=zabp.1 hc
  split at hc
  ·cases hc
  ·rename_i h0;obtain⟨y',hy',hc⟩:=zabp.1 hc;obtain⟨i',hi',hc⟩:=zabp.1 hc
   cases hc
   simp only[zr] at hs;obtain⟨k,hk,hs⟩:=zabp.1 hs
   split at hs
   ·rename_i hk0;obtain⟨v',hv',hs⟩:=zabr.1 hs
    cases hs
    obtain⟨b,off,len,cap,hav,hlt,hva⟩:=zXL h (h.ev hy') hv' hk0;obtain⟨kd,hiv⟩:=zmy (h.ev hi') hk;refine same hva ?_;simp [execOp,hop,hav,hiv,Instr.indexAt,asIntOf,run_underlying hu,hk0,hlt,zet hn,Addr.add_mid]
   ·cases hs
 ·cases hc
theorem z0S{o:Oper}{x:AOp}{dst:Nat}(y:Operand)(i:Nat)(hop:o.op= .extract y i)(hc:z9 P (.extract y i)=some x)(h:Rel C S a w ι R){v:AV}{H':zd}(hs:zr S.env S.heap dst x=some (v,H')):zR C S a v H' ((execOp a.eval o).run P w):=by
 have same:∀ {v:AV} {u:Value} {r:Result Next},VA w R ι (mark S.heap) v u->r= .ok (.value u) w->zR C S a v S.heap r:=fun hv hr=>zR.same h hv hr;simp only[z9,zabT,zabW] at hc;obtain⟨y',hy',hc⟩:=zabp.1 hc
 cases hc
 have hv:=h.ev hy';simp only[zr] at hs
 split at hs
 ·rename_i vs heq;obtain⟨v',hv',hs⟩:=zabr.1 hs
  cases hs
  rw[heq] at hv;obtain⟨us,hav,hl,hg⟩:=hv.tupD_inv;have hlt:=(zabB.1 hv').1;have hq:us[i]? = some (us[i]'(by omega)):=zabx _;exact same (.d (hg i v' _ hv' hq)) (by simp [execOp,hop,hav,Instr.extract,hq])
 ·rename_i vs heq;obtain⟨v',hv',hs⟩:=zabr.1 hs
  cases hs
  rw[heq] at hv;obtain⟨us,hav,hl,hg⟩:=hv.tup_inv;have hlt:=(zabB.1 hv').1;have hq:us[i]? = some (us[i]'(by omega)):=zabx _;exact same (hg i v _ hv' hq) (by simp [execOp,hop,hav,Instr.extract,hq])
 ·cases hs
theorem z0O{o:Oper}{x:AOp}{dst:Nat}(t:TypeId)(ps:Array (Nat×Operand))(hop:o.op= .build t ps)(hc:z9 P (.build t ps)=some x)(h:Rel C S a w ι R){v:AV}{H':zd}(hs:zr S.env S.heap dst x=some (v,H')):zR C S a v H' ((execOp a.eval o).run P w):=by
 have same:∀ {v:AV} {u:Value} {r:Result Next},VA w R ι (mark S.heap) v u->r= .ok (.value u) w->zR C S a v S.heap r:=fun hv hr=>zR.same h hv hr;obtain⟨rfl,u,k1,k2⟩:=zSv h hc hs;exact same k2 (by simp [execOp,hop,k1])
theorem zWh{x v:AV}{av:Value}{t:TypeId}{ag:Bool}{off n:Nat}(hv:VA w R ι (mark S.heap) x av)(hs:zrv ag off n x=some v)(hag:zbi P t=some ag)(hn:zaQ P t=some n)(h0:¬n=0):
    ∃vs q,av= .agg vs/\(part t (Value.agg vs).cells off).run P w= .ok q w/\VA w R ι (mark S.heap) v q:=by
 unfold zrv at hs
 split at hs
 ·rename_i cs;obtain⟨v',hv',hs⟩:=zabr.1 hs
  cases hs
  obtain⟨c1,c2⟩:=hv.cells rfl;have hcells:zdu w R ι (mark S.heap) (cs.map .d) av.cells:=⟨by rw[c1];simp [AV.size,D.size,D.cells],c2⟩;have hagg:∃vs,av= .agg vs:=by
   have:=hv.of_d
   cases this;exact⟨_,rfl⟩
  obtain⟨vs,hav⟩:=hagg;rw[hav] at hcells;obtain⟨h1,h2⟩:=zhb hv' h0;obtain⟨p1,p2⟩:=zkQ hcells hag hn (by simpa [D.size,D.cells] using h1)
  rcases h2 with ⟨rfl,rfl⟩|⟨rfl,_,h3⟩
  ·obtain⟨p3,p4⟩:=p1 rfl;have e1:AV.mkAgg ((List.map AV.d cs).drop off |>.take n)= .d (.agg ((cs.drop off).take n)):=by
    have e2:((List.map AV.d cs).drop off).take n=((cs.drop off).take n).map .d:=by rw[zac7,zadO]
    rw[e2];unfold AV.mkAgg;rw[zt4]
   rw[e1] at p4;exact⟨vs,_,hav,p3,p4⟩
  ·obtain⟨q,p3,p4⟩:=p2 rfl (.d v') (by rw[zabI,show cs[off]? = some v' from h3];rfl);exact⟨vs,_,hav,p3,p4⟩
 ·rename_i cs;obtain⟨c1,c2⟩:=hv.cells rfl;have hcells:zdu w R ι (mark S.heap) cs av.cells:=⟨c1,c2⟩;have hagg:∃vs,av= .agg vs:=by
   cases hv;exact⟨_,rfl⟩
  obtain⟨vs,hav⟩:=hagg;rw[hav] at hcells;simp only[zep] at hs
  split at hs
  ·rename_i hagt
   split at hs
   ·rename_i hb
    cases hs
    obtain⟨p3,p4⟩:=(zkQ hcells hag hn hb).1 hagt;exact⟨vs,_,hav,p3,p4⟩
   ·cases hs
  ·rename_i hagf
   split at hs
   ·rename_i hn1;have hlt:=(zabB.1 hs).1;have hlt:off<cs.length:=hlt;obtain⟨q,p3,p4⟩:=(zkQ hcells hag hn (by omega)).2 (by simpa using hagf) _ hs;exact⟨vs,_,hav,p3,p4⟩
   ·cases hs
 ·cases hs
theorem z0V{o:Oper}{x:AOp}{dst:Nat}(t:TypeId)(y i:Operand)(hop:o.op= .index t y i)(hc:z9 P (.index t y i)=some x)(h:Rel C S a w ι R){v:AV}{H':zd}(hs:zr S.env S.heap dst x=some (v,H')):zR C S a v H' ((execOp a.eval o).run P w):=by
 have same:∀ {v:AV} {u:Value} {r:Result Next},VA w R ι (mark S.heap) v u->r= .ok (.value u) w->zR C S a v S.heap r:=fun hv hr=>zR.same h hv hr;simp only[z9] at hc
 split at hc
 ·rename_i hu;simp only[zabT,zabW] at hc;obtain⟨y',hy',hc⟩:=zabp.1 hc;obtain⟨i',hi',hc⟩:=zabp.1 hc
  cases hc
  simp only[zr] at hs
  split at hs
  ·rename_i s k h1 h2
   split at hs
   ·rename_i hk0;obtain⟨b,hb,hs⟩:=zabr.1 hs
    cases hs
    have hv:=h.ev hy';rw[h1] at hv;obtain⟨hav,_⟩:=hv.str_inv;obtain⟨kd,hiv⟩:=zmy (h.ev hi') h2;refine same (u:= .int .u8 b.toNat) (.d (.int ?_)) ?_
    ·have:=b.toNat_lt;simp [IntKind.has,IntKind.min,IntKind.max,IntKind.bits,IntKind.signed];omega
    ·have hget:(⟨s.toArray⟩:ByteArray)[k.toNat]? = some b:=by
        have hlt:=(zabB.1 hb).1;have h3:=(zabB.1 hb).2;rw[getElem?_pos (⟨s.toArray⟩:ByteArray) k.toNat (by simpa [ByteArray.size] using hlt)]
        congr 1
     simp [execOp,hop,hav,hiv,Instr.index,asIntOf,run_underlying hu,hk0,hget]
   ·cases hs
  ·cases hs
 ·rename_i len e hu;simp only[zabT,zabW] at hc;obtain⟨n,hn,hc⟩:=zabp.1 hc
  split at hc
  ·cases hc
  ·rename_i h0;obtain⟨ag,hag,hc⟩:=zabp.1 hc;obtain⟨y',hy',hc⟩:=zabp.1 hc;obtain⟨i',hi',hc⟩:=zabp.1 hc
   cases hc
   simp only[zr] at hs;obtain⟨k,hk,hs⟩:=zabp.1 hs
   split at hs
   ·rename_i hk0;obtain⟨v',hv',hs⟩:=zabr.1 hs
    cases hs
    obtain⟨kd,hiv⟩:=zmy (h.ev hi') hk;obtain⟨vs,q,hav,hp,hva⟩:=zWh (h.ev hy') hv' hag hn h0;refine same hva ?_;simp only[Value.cells] at hp;simp [execOp,hop,hav,hiv,Instr.index,asIntOf,run_underlying hu,hk0.1,hk0.2,zet hn,hp]
   ·cases hs
 ·cases hc
theorem z4q{o:Oper}{x:AOp}{dst:Nat}(t:TypeId)(y:Operand)(lo hi mx:Option Operand)(hop:o.op= .slice t y lo hi mx)(hc:z9 P (.slice t y lo hi mx)=some x)(h:Rel C S a w ι R){v:AV}{H':zd}(hs:zr S.env S.heap dst x=some (v,H')):zR C S a v H' ((execOp a.eval o).run P w):=by
 have same:∀ {v:AV} {u:Value} {r:Result Next},VA w R ι (mark S.heap) v u->r= .ok (.value u) w->zR C S a v S.heap r:=fun hv hr=>zR.same h hv hr;have vo:∀ {p:Option Operand} {p':Option Opd},p.mapM opd=some p'->VAo w R ι (mark S.heap) (p'.map (·.ev S.env)) (p.map a.eval):=by
  intro p p' hp
  cases p with
  | none=>simp at hp;subst hp;trivial
  | some q=>
   simp only[Option.mapM_some,Option.map_eq_map,zabr] at hp;obtain⟨q',hq',rfl⟩:=hp;exact h.ev hq'
 simp only[z9] at hc
 split at hc
 ·rename_i e hu;simp only[zabT,zabW] at hc;obtain⟨n,hn,hc⟩:=zabp.1 hc
  split at hc
  ·cases hc
  ·obtain⟨y',hy',hc⟩:=zabp.1 hc;obtain⟨lo',hlo,hc⟩:=zabp.1 hc;obtain⟨hi',hhi,hc⟩:=zabp.1 hc;obtain⟨mx',hmx,hc⟩:=zabp.1 hc
   cases hc
   simp only[zr] at hs;obtain⟨v',hv',hs⟩:=zabr.1 hs
   cases hs
   obtain⟨u',k1,k2⟩:=z9l h rfl (h.ev hy') (vo hlo) (vo hhi) (vo hmx) hv' hu hn;exact same k2 (by simp [execOp,hop,k1])
 ·cases hc
theorem z0P{o:Oper}{x:AOp}{dst:Nat}(t:TypeId)(len:Nat)(ps:Array (Nat×Operand))(hop:o.op= .buildSlice t len ps)(hc:z9 P (.buildSlice t len ps)=some x)(h:Rel C S a w ι R){v:AV}{H':zd}(hs:zr S.env S.heap dst x=some (v,H')):zR C S a v H' ((execOp a.eval o).run P w):=by
 have same:∀ {v:AV} {u:Value} {r:Result Next},VA w R ι (mark S.heap) v u->r= .ok (.value u) w->zR C S a v S.heap r:=fun hv hr=>zR.same h hv hr;simp only[z9] at hc
 split at hc
 ·rename_i e hu;simp only[zabT,zabW] at hc;obtain⟨n,hn,hc⟩:=zabp.1 hc;obtain⟨z,hz,hc⟩:=zabp.1 hc;obtain⟨qs,hqs,hc⟩:=zabp.1 hc
  split at hc
  ·cases hc
  ·rename_i h0
   cases hc
   simp only[zr] at hs
   split at hs
   ·rename_i hzq;obtain⟨es,hes,hs⟩:=zabp.1 hs;have hn0:0<n:=by omega
    obtain⟨zv,hz1,_,hz2⟩:=znQ hz (zjq hz) w R ι (mark S.heap);obtain⟨hl,hg⟩:=zeT hqs;have hrow0:=zRs hz2 hzq.1 hn0 len;obtain⟨c',k1,k2,k3,k4⟩:=zVT (ps:=(ps.map fun (i,x)=>(i,a.eval x)).toList) hrow0 (fun e he=>by rw[(zadP.1 he).2];exact hzq.1) (by simp [hl]) (fun k i u i' v h1 h2=>by
     rw[zady,zabI] at h1;rw[zabI] at h2;obtain⟨p,hp,h1⟩:=zabr.1 h1;obtain⟨q,hq,h2⟩:=zabr.1 h2;obtain⟨x,hx,hf⟩:=zabp.1 (hg k p q hp hq)
     cases hf;cases h1;cases h2
     exact⟨rfl,h.ev hx⟩) (fun q hq=>by
     obtain⟨q0,hq0,rfl⟩:=zaby.1 hq;have:=zabO.1 hzq.2 q0 hq0;simpa using this) hes
    have hlen:es.length=len:=by rw[k4,zacp]
    have hL:es.length<=LIM:=by
     have:len * 1<=len * n:=Nat.mul_le_mul_left _ hn0;unfold LIM;omega
    have hrun:(Instr.buildSlice t len (ps.map fun (i,x)=>(i,a.eval x))).run P w= .ok (.slice (some ⟨w.heap.size,0,none⟩) len len) (w.alloc (.cells c' e)):=by
     have h24:¬(len * n>2 ^ 24):=by omega
     have hfill:∀zz:Array Value,zz=zv.cells\/len * n=0->Instr.fill (fun i=>some (i * n,n)) ((Array.range (len * n)).map (zz[· % zz.size]!)) (ps.map fun (i,x)=>(i,a.eval x)).toList=some c':=by
      rintro zz (rfl|h0)
      ·exact k1
      ·have e1:∀q:Array Value,(Array.range (len * n)).map (q[· % q.size]!)= #[]:=fun q=>by rw[h0];simp
       rw[e1];rw[e1] at k1;exact k1
     unfold Instr.buildSlice;simp only[Sem.run_bind,run_underlying hu,Result.andThen_ok,zet hn,Sem.run_ite,zabn h24,Sem.run_pure]
     by_cases h0:len * n=0
     ·simp only[zabo h0,Sem.run_pure,Result.andThen_ok,hfill #[] (.inr h0)];simp [newRow]
     ·simp only[zabn h0,Sem.run_bind,hz1,Sem.run_pure,Result.andThen_ok,hfill zv.cells (.inl rfl)];simp [newRow]
    split at hs
    ·rename_i ds hds
     cases hs
     have:=ziu hds;subst this;have hlen':ds.length=len:=by simpa using hlen
     obtain⟨q1,q2⟩:=h.newData (n:=n) e k2 hn0 (fun x hx=>by have:=k3 (.d x) (zadw hx);exact this) (by simpa using hL);rw[hlen'] at q2;exact⟨_,_,_,_,.inl (by simp [execOp,hop,hrun]),q1,q2⟩
    ·split at hs
     ·rename_i hu'
      cases hs
      have href:∀x∈es,x.refs dst=false:=by
       have gen:∀(qs':List (Nat×AV)) (z0 es:List AV),(∀x∈z0,x.refs dst=false)->(∀q∈qs',q.2.refs dst=false)->zd8 z0 qs'=some es->∀x∈es,x.refs dst=false:=by
        intro qs'
        induction qs' with
        | nil=>intro z0 es h1 _ h3;simp only[zd8,Option.some.injEq] at h3;subst h3;exact h1
        | cons q qs' ih=>
         obtain⟨i,v⟩:=q;intro z0 es h1 h2 h3;simp only[zd8] at h3
         split at h3
         ·refine ih _ es (fun x hx=> ?_) (fun q hq=>h2 q (.tail _ hq)) h3
          rcases zac1 hx with hx|rfl
          ·exact h1 x hx
          ·have:=h2 (i,v) (.head _);exact zaaF this
         ·cases h3
       refine gen _ _ es (fun x hx=>by rw[(zadP.1 hx).2];exact zDj hz dst) (fun q hq=> ?_) hes;obtain⟨q0,hq0,rfl⟩:=zaby.1 hq;obtain⟨k,hk⟩:=zab6 hq0;have hlt:k<ps.toList.length:=by rw[<- hl];exact (zabB.1 hk).1
       obtain⟨x,hx,hf⟩:=zabp.1 (hg k _ q0 (zabx hlt) hk)
       cases hf
       exact zMJ hx hu'.1
      obtain⟨q1,q2⟩:=h.newOwn (n:=n) e hu' k2 hn0 k3 hL href;rw[hlen] at q2;exact⟨_,_,_,_,.inl (by simp [execOp,hop,hrun]),q1,q2⟩
     ·cases hs
   ·cases hs
 ·cases hc
theorem z04{o:Oper}{x:AOp}{dst:Nat}(t:TypeId)(l c:Operand)(hop:o.op= .makeSlice t l c)(hc:z9 P (.makeSlice t l c)=some x)(h:Rel C S a w ι R){v:AV}{H':zd}(hs:zr S.env S.heap dst x=some (v,H')):zR C S a v H' ((execOp a.eval o).run P w):=by
 have same:∀ {v:AV} {u:Value} {r:Result Next},VA w R ι (mark S.heap) v u->r= .ok (.value u) w->zR C S a v S.heap r:=fun hv hr=>zR.same h hv hr;simp only[z9] at hc
 split at hc
 ·rename_i e hu;simp only[zabT,zabW] at hc;obtain⟨n,hn,hc⟩:=zabp.1 hc;obtain⟨i,hi,hc⟩:=zabp.1 hc;obtain⟨z,hz,hc⟩:=zabp.1 hc
  split at hc
  ·cases hc
  ·rename_i h0;obtain⟨l',hl',hc⟩:=zabp.1 hc;obtain⟨c',hc',hc⟩:=zabp.1 hc
   cases hc
   simp only[zr] at hs
   split at hs
   ·rename_i n1 n2 e1 e2
    split at hs
    ·rename_i hh;obtain⟨g1,rfl,g3,g4,g5,g6⟩:=hh
     cases hs
     have v1:=h.ev hl';rw[e1] at v1;have v2:=h.ev hc';rw[e2] at v2;obtain⟨a1,_⟩:=v1.int_inv;obtain⟨a2,_⟩:=v2.int_inv;obtain⟨k,rfl⟩:∃k:Nat,n1=k:=⟨n1.toNat,by omega⟩;have hk:k<=LIM:=by omega
     have hn0:0<n:=by omega
     obtain⟨zv,hz1,_,hz2⟩:=znQ hz (zjq hz) w R ι (mark S.heap);have hrow:=zRs hz2 g4 hn0 k;have hw:IntKind.i64.wrap (k:Int)=k:=by
      unfold LIM at hk;simp [IntKind.wrap,IntKind.bits,IntKind.signed];omega
     have hrun:(Instr.makeSlice t (.int .i64 k) (.int .i64 k)).run P w= .ok (.slice (some ⟨w.heap.size,0,none⟩) k k) (w.alloc (.cells ((Array.range (k * n)).map (zv.cells[· % zv.cells.size]!)) e)):=by
      have hby:¬((i.bytes:Int) * (k:Int)>2 ^ 48):=by
       have:i.bytes * k<=32768 * 4294967296:=Nat.mul_le_mul (by omega) hk;omega
      have hti:(typeInfo e).run P w= .ok i w:=by simp [typeInfo,hi]
      unfold Instr.makeSlice;simp only[Sem.run_bind,run_underlying hu,Result.andThen_ok,asInt,asIntOf,Sem.run_pure,hti,hw,Sem.run_ite];rw[zabn (by simp;omega)];simp only[Sem.run_pure,Result.andThen_ok,run_askRoom,zab5,zet hn]
      by_cases h0':k * n=0
      ·have e3:∀q:Array Value,(Array.range (k * n)).map (q[· % q.size]!)= #[]:=fun q=>by rw[h0'];simp
       simp only[zabo h0',Sem.run_pure,Result.andThen_ok,e3];simp [newRow]
      ·simp only[zabn h0',Sem.run_bind,hz1,Sem.run_pure,Result.andThen_ok];simp [newRow]
     obtain⟨q1,q2⟩:=h.newOwn (n:=n) (o:=dst) e ⟨g5,g6⟩ hrow hn0 (fun x hx=>by rw[(zadP.1 hx).2];exact g4) (by simpa using hk) (fun x hx=>by rw[(zadP.1 hx).2];exact zDj hz dst);rw[zacp] at q2;exact⟨_,_,_,_,.inl (by simp [execOp,hop,a1,a2,hrun]),q1,q2⟩
    ·cases hs
   ·cases hs
 ·cases hc
theorem zabh{t:TypeId}{z:AV}(h:zco P t=some z)(hz:zbR z=false):
    ∃zv,(∀w,(zeroValue t).run P w= .ok zv w)/\∀(w:World) (R:Nat->Prop) (ι:Inj) (mk:Nat->Option Nat),(zv.cells.size=z.size/\VA w R ι mk z zv)/\True/\∀q∈zv.cells,q.oneCell'=true:=by
 have h0:=h;unfold zco at h0;obtain⟨zv,h1,h2⟩:=zabp.1 h0;obtain⟨i,h3,h4⟩:=zabp.1 h1;refine⟨zv,fun w=>by simp [zeroValue,typeInfo,h3,h4],fun w R ι mk=> ?_⟩;have hva:=zrc h2 w R ι mk;obtain⟨e1,e2⟩:=hva.cells hz;refine⟨⟨e1,hva⟩,trivial,fun q hq=> ?_⟩;obtain⟨j,hj,rfl⟩:=Array.getElem_of_mem hq;have hlt:j<z.cells.length:=by rw[AV.size_cells, <- e1];exact hj
 obtain⟨k1,q',k2,k3⟩:=e2 j _ (zabx hlt);rw[zad6 hj] at k2
 cases k2
 exact zBw k3 k1
theorem z0Q{o:Oper}{x:AOp}{dst:Nat}(c:Call)(hop:o.op= .call c)(hc:z9 P (.call c)=some x)(h:Rel C S a w ι R){v:AV}{H':zd}(hs:zr S.env S.heap dst x=some (v,H')):zR C S a v H' ((execOp a.eval o).run P w):=by
 have same:∀ {v:AV} {u:Value} {r:Result Next},VA w R ι (mark S.heap) v u->r= .ok (.value u) w->zR C S a v S.heap r:=fun hv hr=>zR.same h hv hr;have und:∀ {tt:Option TypeId} {d:TypeDesc},tt.bind P.underlying=some d->∃q,tt=some q/\P.underlying q=some d:=fun hh=>zabp.1 hh;have lst:∀ {l:Array Operand} {xs:List Operand},l.toList=xs->l=xs.toArray:=fun hh=>by rw[<- hh]
 simp only[z9] at hc
 split at hc
 ·rename_i f hcal
  split at hc
  ·simp only[zabT,zabW] at hc;obtain⟨_,_,hc⟩:=zabp.1 hc
   cases hc;simp [zr] at hs
  ·cases hc
 ·rename_i f hcal
  split at hc
  ·simp only[zabT,zabW] at hc;obtain⟨_,_,hc⟩:=zabp.1 hc
   cases hc;simp [zr] at hs
  ·cases hc
 ·rename_i hcal;have run:∀ {y:Operand} {u:Value},c.args.toList=[y]->(Builtin.len_ c.argTypes o.type #[a.eval y]).run P w= .ok u w->(execOp a.eval o).run P w= .ok (.value u) w:=by
   intro y u h2 hr;have h2:=lst h2;simp [execOp,hop,resolve,hcal,h2,invoke,builtin,hr]
  have int:∀ {n:Nat},n<=LIM->VA w R ι (mark S.heap) (.d (.int .i64 n)) (.int .i64 n):=fun {n} hL=> .d (.int (by
   unfold LIM at hL;simp [IntKind.has,IntKind.min,IntKind.max,IntKind.bits,IntKind.signed];omega))
  split at hc
  ·rename_i y h1 h2;obtain⟨y',hy',rfl⟩:=zabr.1 hc;obtain⟨q,hq,hu⟩:=und h1;have hv:=h.ev hy';simp only[zr] at hs
   split at hs
   ·rename_i s heq
    cases hs
    rw[heq] at hv;obtain⟨hav,hL⟩:=hv.str_inv;have hsz:(⟨s.toArray⟩:ByteArray).size=s.length:=by simp [ByteArray.size]
    exact same (int hL) (run h2 (by rw[hav];simp [Builtin.len_,hq,run_underlying hu,goInt,hsz]))
   ·cases hs
  ·rename_i e y h1 h2;obtain⟨y',hy',rfl⟩:=zabr.1 hc;obtain⟨q,hq,hu⟩:=und h1;have hv:=h.ev hy';have slen:∀(ao:Option Addr) (n cap:Nat),a.eval y= .slice ao n cap->n<=LIM->zR C S a (.d (.int .i64 n)) S.heap ((execOp a.eval o).run P w):=by
    rintro ao n cap hav hL;exact same (int hL) (run h2 (by simp [Builtin.len_,hq,hav,run_underlying hu,goInt]))
   simp only[zr] at hs;generalize hpa:y'.ev S.env=pa at hv hs;generalize hav:a.eval y=av at hv;have data:∀ {es:List D},Rd w R (.v (.sl es) av)->zR C S a (.d (.int .i64 es.length)) S.heap ((execOp a.eval o).run P w):=by
    intro es hrd;obtain⟨ao,cap,hq,_,hL⟩:=hrd.sl_len;exact slen ao _ cap (by rw[hav,hq]) hL
   cases hv with
   | d hv=>
    rename_i dx
    cases dx with
    | sl es=>simp only[slD,zab8,Option.some.injEq,Prod.mk.injEq] at hs;obtain⟨rfl,rfl⟩:=hs;exact data hv
    | _=>simp [slD] at hs
   | xsl hv=>simp only[slD,zab8,Option.some.injEq,Prod.mk.injEq] at hs;obtain⟨rfl,rfl⟩:=hs;exact data hv
   | osl k1 k2 k3 k4 k5 k6=>simp only[Option.some.injEq,Prod.mk.injEq] at hs;obtain⟨rfl,rfl⟩:=hs;exact slen _ _ _ hav k6
   | osl0=>simp only[Option.some.injEq,Prod.mk.injEq] at hs;obtain⟨rfl,rfl⟩:=hs;exact slen _ _ _ hav (by simp)
   | accR k1 k2 k3 k4 k5 k6 k7=>simp only[slD,zab8,Option.some.injEq,Prod.mk.injEq] at hs;obtain⟨rfl,rfl⟩:=hs;exact slen _ _ _ hav k3
   | accC k1 k2 k3 k4 k5 k6 k7 k8 k9=>simp only[slD,zab8,Option.some.injEq,Prod.mk.injEq] at hs;obtain⟨rfl,rfl⟩:=hs;exact slen _ _ _ hav k4
   | acc0=>simp only[slD,zab8,Option.some.injEq,Prod.mk.injEq] at hs;obtain⟨rfl,rfl⟩:=hs;exact slen _ _ _ hav (by simp)
   | _=>simp [slD] at hs
  ·cases hc
 ·rename_i hcal;have fin:∀ {y z:Operand} {ux uy:Value},c.args.toList=[y,z]->a.eval y=ux->a.eval z=uy->(∃u w' ι' R',(Builtin.append_ c.argTypes o.type #[ux,uy]).run P w= .ok u w'/\Rel C ⟨S.env,H'⟩ a w' ι' R'/\VA w' R' ι' (mark H') v u)->zR C S a v H' ((execOp a.eval o).run P w):=by
   rintro y z ux uy h2 rfl rfl ⟨u,w',ι',R',k1,k2,k3⟩;have h2:=lst h2;exact⟨u,w',ι',R',.inl (by simp [execOp,hop,resolve,hcal,h2,invoke,builtin,k1]),k2,k3⟩
  have two:∀ {q1 q2:TypeId} {args:Array Value},c.argTypes[0]? = some q1->c.argTypes[1]? = some q2->Builtin.append_ c.argTypes o.type args=Builtin.append_ #[q1,q2] o.type args:=by
   intro q1 q2 args h0 h1;unfold Builtin.append_;simp only[h0,h1];rfl
  split at hc
  ·rename_i e e' y z h1 h2 h3;simp only[zabT,zabW] at hc;obtain⟨n,hn,hc⟩:=zabp.1 hc;obtain⟨i,hi,hc⟩:=zabp.1 hc;obtain⟨zz,hz,hc⟩:=zabp.1 hc
   split at hc
   ·cases hc
   ·rename_i h0;obtain⟨y',hy',hc⟩:=zabp.1 hc;obtain⟨z',hz',hc⟩:=zabp.1 hc
    cases hc
    simp only[zr] at hs;obtain⟨ys,hys,hs⟩:=zabp.1 hs;obtain⟨q1,hq1,hu1⟩:=und h1;obtain⟨q2,hq2,hu2⟩:=und h2;have hn0:0<n:=by omega
    have hin:i.size=n:=by unfold zaQ at hn;rw[hi,zab8] at hn;exact Option.some.inj hn
    have hzs:=zRr hz hi;obtain⟨zv,hzv,hzn⟩:=hzs;have hsz:=zR3 hs;obtain⟨news,hsrc,hcells⟩:=z9x h (h.ev hz') hys hn0 hsz hu2;refine fin h3 rfl rfl ?_;rw[two hq1 hq2];exact zDB (e:=e) h (h.ev hy') hsrc hcells hu1 hi hin hzv (by omega) (by omega) hn0 hs
  ·cases hc
 ·rename_i hcal;simp only[zabT,zabW] at hc;obtain⟨xs,hxs,hc⟩:=zabp.1 hc
  cases hc
  simp only[zr] at hs
  split at hs
  ·cases hs
  ·rename_i y ys heq;obtain⟨v',hv',hs⟩:=zabr.1 hs
   cases hs
   obtain⟨hl,hg⟩:=zj2 h hxs;rw[heq] at hl hg
   cases hargs:c.args.toList.map a.eval with
   | nil=>rw[hargs] at hl;simp at hl
   | cons u us=>
    rw[hargs] at hl hg;obtain⟨q,k1,k2⟩:=zMq (P:=P) false (hg 0 y u rfl rfl) (by simpa using hl) (fun i y q h1 h2=>hg (i+1) y q (by simpa using h1) (by simpa using h2)) hv';refine same k2 ?_;have e:(c.args.map a.eval).toList=u::us:=by rw[zady,hargs]
    have e2:c.args.map a.eval=(u::us).toArray:=by rw[<- e]
    have k1':(us.foldlM Builtin.min2 u).run P w= .ok q w:=k1;simp only[execOp,hop,resolve,hcal,e2,Sem.run_bind,Sem.run_pure,Result.andThen_ok,invoke,builtin,Builtin.min_,k1']
 ·rename_i hcal;simp only[zabT,zabW] at hc;obtain⟨xs,hxs,hc⟩:=zabp.1 hc
  cases hc
  simp only[zr] at hs
  split at hs
  ·cases hs
  ·rename_i y ys heq;obtain⟨v',hv',hs⟩:=zabr.1 hs
   cases hs
   obtain⟨hl,hg⟩:=zj2 h hxs;rw[heq] at hl hg
   cases hargs:c.args.toList.map a.eval with
   | nil=>rw[hargs] at hl;simp at hl
   | cons u us=>
    rw[hargs] at hl hg;obtain⟨q,k1,k2⟩:=zMq (P:=P) true (hg 0 y u rfl rfl) (by simpa using hl) (fun i y q h1 h2=>hg (i+1) y q (by simpa using h1) (by simpa using h2)) hv';refine same k2 ?_;have e:(c.args.map a.eval).toList=u::us:=by rw[zady,hargs]
    have e2:c.args.map a.eval=(u::us).toArray:=by rw[<- e]
    have k1':(us.foldlM Builtin.max2 u).run P w= .ok q w:=k1;simp only[execOp,hop,resolve,hcal,e2,Sem.run_bind,Sem.run_pure,Result.andThen_ok,invoke,builtin,Builtin.max_,k1']
 ·cases hc
theorem Rel.newMap(h:Rel C S a w ι R){o:Nat}(hu:zho o S):Rel C ⟨S.env,zP o (.mp []) S.heap⟩ a (w.alloc (.map #[] 0)) (upd ι o (w.heap.size,1)) R:=by
 have hst:∀p,p≠o->Step w (w.alloc (.map #[] 0)) ι (upd ι o (w.heap.size,1)) (mark S.heap) (mark (zP o (.mp []) S.heap)) p:=fun p hp=>
  Step.other (zbp hp) (zej hp) fun b s hb=>zcU (h.own p b s hb).2
 refine h.change rfl rfl rfl (by simp) (fun b hb=>Blk.of_eq (zcU hb)) (fun b hb=>zcU (zaco (h.keepLt b hb) h.grow)) (fun _ hb=>hb) (fun b hb=>by have:=h.rlt b hb;simp;omega) h.rok (zbK.alloc h _) ?_ ?_ ?_ ?_
 ·intro q b s' hq
  by_cases e:q=o
  ·subst e;rw[zcQ] at hq;cases hq;exact⟨fun hk=>by have:=h.keepLt _ hk;have:=h.grow;omega,by simp⟩
  ·rw[zbp e] at hq;have:=h.own q b s' hq;exact⟨this.1,by simp;omega⟩
 ·intro q q' b s1 s2 h1 h2
  by_cases e:q=o<;>by_cases e':q'=o
  ·rw[e,e']
  ·subst e;rw[zcQ] at h1;rw[zbp e'] at h2;cases h1;have:=(h.own _ _ _ h2).2;omega
  ·subst e';rw[zcQ] at h2;rw[zbp e] at h1;cases h2;have:=(h.own _ _ _ h1).2;omega
  ·rw[zbp e] at h1;rw[zbp e'] at h2;exact h.inj _ _ _ _ _ h1 h2
 ·intro p hp;refine hst p fun e=> ?_;subst e;rw[hu.1] at hp;cases hp
 ·intro q ob' hq
  cases hq with
  | head=>exact .mp zcQ (fun hb=>by have:=h.rlt _ hb;omega) (heap_alloc_new w (.map #[] 0)) (by omega) rfl fun i k x hi=>by simp at hi
  | tail _ hq=>
   obtain⟨h1,h2⟩:=zi1.1 hq;refine (h.heap q ob' h1).mono (fun _ hb=>hb) (zbK.alloc h _) (fun b s' hb=>⟨by rw[zbp h2,hb],zcU (h.own q b s' hb).2,fun hb=>hb⟩) (fun h0=>by rw[zbp h2,h0]) fun p hp=> ?_;refine hst p fun e=> ?_;subst e;have:=zhd h1 hu.2;rw[hp] at this;cases this
theorem Rel.setMap (h:Rel C S a w ι R) {o b s ck ck':Nat} {es es':List (Int×D)} {l l':Array MapEntry} (hes:look o S.heap=some (.mp es)) (hι:ι o=some (b,s)) (hR:¬R b) (hb:w.heap[b]? = some (.map l ck)) (hs:0<s)
    (hl:l'.size=es'.length) (he:∀(i:Nat) (k:Int) (x:D),es'[i]? = some (k,x)->∃e,l'[i]? = some e/\e.key= .int .i64 k/\Rd w R (.v x e.val)):
    Rel C ⟨S.env,zP o (.mp es') S.heap⟩ a { w with heap:=w.heap.setIfInBounds b (.map l' ck') } ι R:=by
 obtain⟨h1,h2⟩:=MapKept.heap_set (o':= .map l' ck') hb;have hK:zbK R w { w with heap:=w.heap.setIfInBounds b (.map l' ck') }:=fun b' hb'=>h2 b' fun e=>hR (e ▸ hb');have hblk:∀b' k,Blk w { w with heap:=w.heap.setIfInBounds b (.map l' ck') } b' k:=fun b' k=>by
  by_cases e:b'=b
  ·subst e;intro c T hc;rw[hb] at hc;cases hc
  ·exact Blk.of_eq (h2 b' e)
 have hmk:mark (zP o (Obj.mp es') S.heap)=mark S.heap:=funext fun q=>by
  by_cases e:q=o
  ·subst e;rw[zei];simp [mark,hes]
  ·exact zej e
 have hst:∀q,Step w { w with heap:=w.heap.setIfInBounds b (.map l' ck') } ι ι (mark S.heap) (mark S.heap) q:=fun q=>⟨fun _ _ h=>h,fun b1 s1 _=>hblk _ _,fun m h=>⟨m,h,zabR _⟩,fun m h=>⟨m,h,zabR _⟩⟩;have hsz:(w.heap.setIfInBounds b (.map l' ck')).size=w.heap.size:=by simp
 refine h.change rfl rfl rfl (by simp) (fun b' _=>hblk b' 0) (fun b' hb'=>h2 b' fun e=>(h.own o b s hι).1 (e ▸ hb')) (fun _ h=>h) (fun b' hb'=>by show b'<(w.heap.setIfInBounds b (.map l' ck')).size;rw[hsz];exact h.rlt b' hb') h.rok hK
  (fun q b1 s1 hq=>⟨(h.own q b1 s1 hq).1,by show b1<(w.heap.setIfInBounds b (.map l' ck')).size;rw[hsz];exact (h.own q b1 s1 hq).2⟩) h.inj (fun q _=>by rw[hmk];exact hst q) ?_
 rw[hmk];intro q ob hq
 rcases zhi hq with hq|⟨hq,hne⟩
 ·cases hq
  exact .mp hι hR h1 hs hl fun i k x hi=>let ⟨e,k1,k2,k3⟩:=he i k x hi;⟨e,k1,k2,k3.mono_v (fun _ h=>h) hK⟩
 ·exact (h.heap q ob hq).mono (fun _ h=>h) hK (fun b1 s1 hb1=>⟨hb1,h2 b1 fun e=>hne (h.inj _ _ _ _ _ (e ▸ hb1) hι),fun h=>h⟩) (fun h=>h) fun p _=>hst p
theorem zHD {n:Int} {es:List (Int×D)} {l:List MapEntry} {i:Nat} (hl:l.length=es.length)
    (he:∀(i:Nat) (k:Int) (x:D),es[i]? = some (k,x)->∃e,l[i]? = some e/\e.key= .int .i64 k/\Rd w R (.v x e.val)):
    (zg8 n es=none/\Instr.findNow (.int .i64) (.int .i64 n) l i=some none/\∀x,zh0 n x es=es++[(n,x)])\/
    (∃j y e,zg8 n es=some y/\Instr.findNow (.int .i64) (.int .i64 n) l i=some (some (i+j,e.val))/\l[j]? = some e/\e.key= .int .i64 n/\Rd w R (.v y e.val)/\j<es.length/\∀x,zh0 n x es=es.set j (n,x)):=by
 induction es generalizing l i with
 | nil=>exact .inl ⟨rfl,by cases l with|nil=>rfl|cons _ _=>simp at hl,fun _=>rfl⟩
 | cons p es ih=>
  obtain⟨k,x⟩:=p
  cases l with
  | nil=>simp at hl
  | cons e l=>
   obtain⟨e',k1,k2,k3⟩:=he 0 k x rfl;simp only[zadG,Option.some.injEq] at k1;subst k1
   by_cases hk:k=n
   ·subst hk;refine .inr ⟨0,x,e,by simp [zg8],?_,rfl,k2,k3,by simp,fun y=>by simp [zh0]⟩;simp [Instr.findNow,k2,Instr.sameNow]
   ·have hns:Instr.sameNow (.int .i64) (.int .i64 n) e.key=some false:=by
       rw[k2];simp [Instr.sameNow];exact fun h=>hk h.symm
    rcases ih (l:=l) (i:=i+1) (by simpa using hl) (fun i k x hi=>by simpa using he (i+1) k x (by simpa using hi)) with ⟨h1,h2,h3⟩|⟨j,y,e',h1,h2,h3,h4,h5,h6,h7⟩
    ·exact .inl ⟨by simp [zg8,hk,h1],by simp [Instr.findNow,hns,h2],fun y=>by simp [zh0,hk,h3]⟩
    ·exact .inr ⟨j+1,y,e',by simp [zg8,hk,h1],by simp [Instr.findNow,hns,h2];omega,by simpa using h3,h4,h5,by simp;omega,fun z=>by simp [zh0,hk,h7]⟩
theorem zabi{t:TypeId}{z:AV}(h:zco P t=some z):∃zv,(∀w,(zeroValue t).run P w= .ok zv w)/\∀(w:World) (R:Nat->Prop) (ι:Inj) (mk:Nat->Option Nat),VA w R ι mk z zv:=by
 have h0:=h;unfold zco at h0;obtain⟨zv,h1,h2⟩:=zabp.1 h0;obtain⟨i,h3,h4⟩:=zabp.1 h1;exact⟨zv,fun w=>by simp [zeroValue,typeInfo,h3,h4],fun w R ι mk=>zrc h2 w R ι mk⟩
theorem z03{o:Oper}{x:AOp}{dst:Nat}(t:TypeId)(r:Option Operand)(hop:o.op= .makeMap t r)(hc:z9 P (.makeMap t r)=some x)(h:Rel C S a w ι R){v:AV}{H':zd}(hs:zr S.env S.heap dst x=some (v,H')):zR C S a v H' ((execOp a.eval o).run P w):=by
 simp only[z9] at hc
 split at hc
 ·split at hc
  ·cases hc
   simp only[zr] at hs
   split at hs
   ·rename_i hu
    cases hs
    refine⟨.map (some w.heap.size),_,_,R,.inl ?_,h.newMap hu,.mpr zcQ (by rw[zei])⟩;simp [execOp,hop,Instr.makeMap]
   ·cases hs
  ·cases hc
 ·cases hc
theorem zMj{o:Nat}{u:Value}(h:Rel C S a w ι R)(hu:VA w R ι (mark S.heap) (.mpr o) u){es:List (Int×D)}(hes:look o S.heap=some (.mp es)):
    ∃b s l ck,u= .map (some b)/\ι o=some (b,s)/\¬R b/\w.heap[b]? = some (.map l ck)/\0<s/\l.size=es.length/\∀(i:Nat) (k:Int) (x:D),es[i]? = some (k,x)->∃e,l[i]? = some e/\e.key= .int .i64 k/\Rd w R (.v x e.val):=by
 cases hu with
 | mpr hι hmk=>
  cases h.heap _ _ (zav hes) with
  | mp k1 k2 k3 k4 k5 k6=>rw[hι] at k1;cases k1;exact⟨_,_,_,_,rfl,hι,k2,k3,k4,k5,k6⟩
theorem z01{o:Oper}{x:AOp}{dst:Nat}(t:TypeId)(y i:Operand)(ok:Bool)(hop:o.op= .lookup t y i ok)(hc:z9 P (.lookup t y i ok)=some x)(h:Rel C S a w ι R){v:AV}{H':zd}(hs:zr S.env S.heap dst x=some (v,H')):zR C S a v H' ((execOp a.eval o).run P w):=by
 simp only[z9] at hc
 split at hc
 rotate_left
 ·cases hc
 rename_i kt et hut
 split at hc
 rotate_left
 ·cases hc
 rename_i z hkt hz;simp only[zabT,zabW] at hc;obtain⟨y',hy',hc⟩:=zabp.1 hc;obtain⟨i',hi',hc⟩:=zabp.1 hc
 cases hc
 simp only[zr,zabr] at hs;obtain⟨v',hv',hs⟩:=hs
 cases hs
 have hvy:=h.ev hy';have hvi:=h.ev hi';unfold zky at hv'
 split at hv'
 rotate_left
 ·cases hv'
 rename_i q n hq hn
 split at hv'
 rotate_left
 ·cases hv'
 rename_i es hes
 cases hv'
 rw[hq] at hvy;rw[hn] at hvi;obtain⟨hi1,hi2⟩:=hvi.int_inv;obtain⟨b,s,l,ck,hu,hι,hR,hb,hs0,hl,he⟩:=zMj h hvy hes;obtain⟨zv,z1,z2⟩:=zabi hz;have hut':=run_underlying (P:=P) hut w;have hck:=MapKept.run_checkKey (P:=P) (w:=w) (kt:=kt) (k:= .int .i64 n) hkt rfl l.isEmpty 9999;have hv:=z2 w R ι (mark S.heap)
 rcases zHD (n:=n) (i:=0) (l:=l.toList) (by simpa using hl) (by simpa using he) with ⟨h1,h2,_⟩|⟨j,y1,e,h1,h2,h3,h4,h5,h6,_⟩
 ·have hfk:=MapKept.run_findKey (P:=P) (w:=w) hkt h2;refine⟨if ok then .tuple #[zv,.bool false] else zv,w,ι,R,.inl ?_,h,?_⟩
  ·simp [execOp,hop,hu,hi1,Instr.lookup,hut',MapKept.run_getObj_map hb,hck,hfk,z1]
  ·rw[h1]
   cases ok with
   | true=>
    refine .d (.tup (vs:=[zv,.bool false]) rfl fun i c u h3 h4=> ?_)
    match i,h3,h4 with
    | 0,h3,h4=>simp at h3 h4;subst h3 h4;exact hv.of_d
    | 1,h3,h4=>simp at h3 h4;subst h3 h4;exact .bool
    | n+2,h3,h4=>simp at h3
   | false=>simpa using hv
 ·have hfk:=MapKept.run_findKey (P:=P) (w:=w) hkt h2;refine⟨if ok then .tuple #[e.val,.bool true] else e.val,w,ι,R,.inl ?_,h,?_⟩
  ·simp [execOp,hop,hu,hi1,Instr.lookup,hut',MapKept.run_getObj_map hb,hck,hfk]
  ·rw[h1]
   cases ok with
   | true=>
    refine .d (.tup (vs:=[e.val,.bool true]) rfl fun i c u h3 h4=> ?_)
    match i,h3,h4 with
    | 0,h3,h4=>simp at h3 h4;subst h3 h4;exact h5
    | 1,h3,h4=>simp at h3 h4;subst h3 h4;exact .bool
    | n+2,h3,h4=>simp at h3
   | false=>simpa using VA.d h5
theorem z05{o:Oper}{x:AOp}{dst:Nat}(t:TypeId)(y i z:Operand)(hop:o.op= .mapUpdate t y i z)(hc:z9 P (.mapUpdate t y i z)=some x)(h:Rel C S a w ι R){v:AV}{H':zd}(hs:zr S.env S.heap dst x=some (v,H')):zR C S a v H' ((execOp a.eval o).run P w):=by
 simp only[z9] at hc
 split at hc
 rotate_left
 ·cases hc
 rename_i kt et hut
 split at hc
 rotate_left
 ·cases hc
 rename_i hkt;simp only[zabT,zabW] at hc;obtain⟨y',hy',hc⟩:=zabp.1 hc;obtain⟨i',hi',hc⟩:=zabp.1 hc;obtain⟨z',hz',hc⟩:=zabp.1 hc
 cases hc
 have hkt:P.underlying kt=some (.int .i64):=hkt;simp only[zr] at hs;have hvy:=h.ev hy';have hvi:=h.ev hi';have hvz:=h.ev hz';unfold zmT at hs
 split at hs
 rotate_left
 ·cases hs
 rename_i q n d hq hn hd
 split at hs
 rotate_left
 ·cases hs
 rename_i es hes
 cases hs
 rw[hq] at hvy;rw[hn] at hvi;rw[hd] at hvz;have hrd:=hvz.of_d;obtain⟨hi1,hi2⟩:=hvi.int_inv;obtain⟨b,s,l,ck,hu,hι,hR,hb,hs0,hl,he⟩:=zMj h hvy hes;have hut':=run_underlying (P:=P) hut w;have hck:=MapKept.run_checkKey (P:=P) (w:=w) (kt:=kt) (k:= .int .i64 n) hkt rfl false 9999
 rcases zHD (n:=n) (i:=0) (l:=l.toList) (by simpa using hl) (by simpa using he) with ⟨h1,h2,h7⟩|⟨j,y1,e,h1,h2,h3,h4,h5,h6,h7⟩
 ·have hfk:=MapKept.run_findKey (P:=P) (w:=w) hkt h2;rw[h7];refine⟨undef,_,ι,R,.inr ⟨?_,rfl⟩,h.setMap (ck':=ck+1) (l':=l.push { key:= .int .i64 n,val:=a.eval z,born:=ck }) hes hι hR hb hs0 (by simp [hl]) ?_,.undef⟩
  ·simp [execOp,hop,hu,hi1,Instr.mapUpdate,hut',MapKept.run_getObj_map hb,hck,hfk,MapKept.run_setObj_map _ hb]
  ·intro i k x hi
   by_cases hlt:i<es.length
   ·rw[zacN hlt] at hi;obtain⟨e,k1,k2,k3⟩:=he i k x hi;exact⟨e,by rw[Array.getElem?_push,zabn (by omega)];exact k1,k2,k3⟩
   ·rw[zacE (by omega)] at hi;have hi0:i=es.length:=by
     have:=(zabB.1 hi).1;simp at this;omega
    subst hi0;simp at hi;obtain⟨rfl,rfl⟩:=hi;exact⟨_,by rw[Array.getElem?_push,zabo hl.symm],rfl,hrd⟩
 ·have hfk:=MapKept.run_findKey (P:=P) (w:=w) hkt h2;rw[h7];have h3':l[j]? = some e:=by simpa using h3
  refine⟨undef,_,ι,R,.inr ⟨?_,rfl⟩,h.setMap (ck':=ck) (l':=l.modify j fun e=>{ e with key:= .int .i64 n,val:=a.eval z }) hes hι hR hb hs0 (by simp [hl]) ?_,.undef⟩
  ·simp [execOp,hop,hu,hi1,Instr.mapUpdate,hut',MapKept.run_getObj_map hb,hck,hfk,MapKept.run_setObj_map _ hb,h3',h4,Instr.keyThatStays,Instr.sameBits]
  ·intro i k x hi
   by_cases hij:j=i
   ·subst hij;rw[List.getElem?_set_self h6] at hi
    cases hi
    exact⟨_,by rw[zad8,zabo rfl,h3'];rfl,rfl,hrd⟩
   ·rw[List.getElem?_set_ne hij] at hi;obtain⟨e',k1,k2,k3⟩:=he i k x hi;exact⟨e',by rw[zad8,zabn hij];exact k1,k2,k3⟩
theorem zSg{o:Oper}{x:AOp}{dst:Nat}(hc:z9 P o.op=some x)(h:Rel C S a w ι R){v:AV}{H':zd}(hs:zr S.env S.heap dst x=some (v,H')):zR C S a v H' ((execOp a.eval o).run P w):=by
 generalize hop:o.op=op at hc
 cases op with
 | move y=>exact z06 y hop hc h hs
 | assign y=>exact z0u y hop hc h hs
 | pick c y z=>exact z08 c y z hop hc h hs
 | alloc t=>exact z0q t hop hc h hs
 | box t y=>exact z0N t y hop hc h hs
 | load t p=>exact z00 t p hop hc h hs
 | store t p y=>exact z4s t p y hop hc h hs
 | nilCheck y=>exact z07 y hop hc h hs
 | binOp bop t y z u=>exact z0M bop t y z u hop hc h hs
 | unOp uop t y=>exact z4w uop t y hop hc h hs
 | convert s t y=>exact z0R s t y hop hc h hs
 | makeFunc fn first cs=>exact z02 fn first cs hop hc h hs
 | fieldAddr t y f=>exact z0U t y f hop hc h hs
 | field t y f=>exact z0T t y f hop hc h hs
 | indexAddr t y i=>exact z0W t y i hop hc h hs
 | extract y i=>exact z0S y i hop hc h hs
 | build t ps=>exact z0O t ps hop hc h hs
 | index t y i=>exact z0V t y i hop hc h hs
 | slice t y lo hi mx=>exact z4q t y lo hi mx hop hc h hs
 | buildSlice t len ps=>exact z0P t len ps hop hc h hs
 | makeSlice t l c=>exact z04 t l c hop hc h hs
 | call c=>exact z0Q c hop hc h hs
 | makeMap t r=>exact z03 t r hop hc h hs
 | lookup t y i ok=>exact z01 t y i ok hop hc h hs
 | mapUpdate t y i z=>exact z05 t y i z hop hc h hs
 | _=>simp [z9] at hc
end Go.Sim

namespace Go.Sim
open Go (World Value Addr TypeId Act)
variable {P:Program} {C:Ctx} {S:St} {a:Act} {w:World} {ι:Inj} {R:Nat->Prop}
def VAs(w:World)(R:Nat->Prop)(ι:Inj)(mk:Nat->Option Nat)(xs:List AV)(us:List Value):Prop:=
 us.length=xs.length/\∀(i:Nat) (x:AV) (u:Value),xs[i]? = some x->us[i]? = some u->VA w R ι mk x u
def GF(P:Program)(f:FuncId)(args:List AV)(os:zd)(r:AV)(os':zd):Prop:=
 ∀(w:World) (R:Nat->Prop) (ι:Inj) (us:List Value),(∀b,R b->b<w.heap.size)->(∀o b s,ι o=some (b,s)->b<w.heap.size/\¬R b/\(look o os).isSome=true)->
  (∀o o' b s s',ι o=some (b,s)->ι o'=some (b,s')->o=o')->(∀o ob,(o,ob)∈os->OB w R ι (mark os) o ob)->VAs w R ι (mark os) args us->
  Calls P f us.toArray w fun e w'=>∃(u:Value) (ι':Inj) (R':Nat->Prop),e= .returned u/\w'.os=w.os/\w'.tape=w.tape/\w'.output=w.output/\w.heap.size<=w'.heap.size/\
   (∀b,b<w.heap.size->Blk w w' b 0)/\(∀b,b<w.heap.size->(∀o s,ι o≠some (b,s))->w'.heap[b]? = w.heap[b]?)/\(∀b,R b->R' b)/\(∀b,R' b->b<w'.heap.size/\(R b\/w.heap.size<=b\/∃o s,ι o=some (b,s)/\look o os'=some (.frz none)))/\
   (∀o b s,ι o=some (b,s)->ι' o=some (b,s))/\(∀o b s,ι' o=some (b,s)->b<w'.heap.size/\(ι o=some (b,s)\/w.heap.size<=b))/\(∀o o' b s s',ι' o=some (b,s)->ι' o'=some (b,s')->o=o')/\
   (∀o ob,(o,ob)∈os'->OB w' R' ι' (mark os') o ob)/\VA w' R' ι' (mark os') r u
def PF(P:Program)(f:FuncId)(args:List D)(r:D):Prop:=
 ∀(w:World) (R:Nat->Prop) (us:List Value),(∀b,R b->b<w.heap.size)->us.length=args.length->(∀(i:Nat) (x:D) (u:Value),args[i]? = some x->us[i]? = some u->Rd w R (.v x u))->
  Calls P f us.toArray w fun e w'=>∃u:Value,e= .returned u/\w'.os=w.os/\w'.tape=w.tape/\w'.output=w.output/\w.heap.size<=w'.heap.size/\
   (∀b,b<w.heap.size->w'.heap[b]? = w.heap[b]?)/\Rd w' (fun b=>R b\/(w.heap.size<=b/\b<w'.heap.size)) (.v r u)
def zeE(R:Nat->Prop)(ι:Inj)(os:List Nat):Nat->Prop:=fun b=>R b\/∃o s,o∈os/\ι o=some (b,s)
theorem AV.objsL_mem{o:Nat}{x:AV}{xs:List AV}(h:x∈xs)(ho:o∈x.objs):o∈AV.objsL xs:=by
 induction xs with
 | nil=>cases h
 | cons y ys ih=>
  simp only[AV.objsL,zabS]
  cases h with
  | head=>exact .inl ho
  | tail _ h=>exact .inr (ih h)
theorem zC3{H:zd}:∀ {xs:List AV} {ds:List D},toD.toDs H xs=some ds->ds.length=xs.length/\∀(i:Nat) (x:AV) (d:D),xs[i]? = some x->ds[i]? = some d->toD H x=some d:=by
 intro xs
 induction xs with
 | nil=>intro ds h;simp only[toD.toDs,Option.some.injEq] at h;subst h;simp
 | cons x xs ih=>
  intro ds h;simp only[toD.toDs] at h
  split at h
  ·rename_i y ys h1 h2
   cases h
   obtain⟨h3,h4⟩:=ih h2;refine⟨by simp [h3],fun i a b ha hb=> ?_⟩
   match i,ha,hb with
   | 0,ha,hb=>simp at ha hb;subst ha hb;exact h1
   | n+1,ha,hb=>exact h4 n a b (by simpa using ha) (by simpa using hb)
  ·cases h
theorem Rd.sealed{os:List Nat}{it:It}(h:Rd w R it):Rd w (zeE R ι os) it:=h.mono (fun _ h=> .inl h) (fun _ _=>rfl) (by cases it with|v=>trivial|el=>exact fun _ _=>rfl)
theorem zaat{H:zd}{x:AV}{d:D}(h:toD H x=some d)(hx:x.cell=true):d.cell=true:=by
 cases x with
 | d y=>simp only[toD,Option.some.injEq] at h;subst h;exact hx
 | xsl es=>simp only[toD,Option.some.injEq] at h;subst h;rfl
 | acc o es=>simp only[toD,Option.some.injEq] at h;subst h;rfl
 | osl o off len=>
  simp only[toD] at h
  split at h
  ·obtain⟨ds,_,h⟩:=zabp.1 h
   split at h
   ·cases h;rfl
   ·cases h
  ·cases h
 | fn f cs=>simp only[toD,zabr] at h;obtain⟨_,_,rfl⟩:=h;rfl
 | ref o i off=>
  cases off with
  | zero=>
   simp only[toD] at h
   split at h
   ·obtain⟨e,_,h⟩:=zabp.1 h
    split at h
    ·cases h;rfl
    ·cases h
   ·cases h
  | succ n=>simp [toD] at h
 | pe o x=>simp [toD] at h
 | nl b=>simp [toD] at h
 | mpr b=>simp [toD] at h
 | agg=>simp [AV.cell] at hx
 | tup=>simp [AV.cell] at hx
 | undef=>simp [AV.cell] at hx
theorem znK(hr:Rel C S a w ι R){x:AV}{u:Value}(h:VA w R ι (mark S.heap) x u):∀ {d:D} {os:List Nat},toD S.heap x=some d->(∀o∈x.objs,o∈os)->Rd w (zeE R ι os) (.v d u):=by
 induction h with
 | d h=>intro d os hd _;simp only[toD,Option.some.injEq] at hd;subst hd;exact h.sealed
 | xsl h=>intro d os hd _;simp only[toD,Option.some.injEq] at hd;subst hd;exact h.sealed
 | @ref o i off b s hι hmk=>
  intro d os hd ho
  cases off with
  | succ n=>simp [toD] at hd
  | zero=>
   simp only[toD] at hd
   split at hd
   ·rename_i es hes;obtain⟨e,he,hd⟩:=zabp.1 hd
    split at hd
    ·rename_i y
     cases hd
     have hob:=hr.heap _ _ (zav hes)
     cases hob with
     | row hι' hR hb hs hsz _ hcell=>
      rw[hι] at hι';cases hι';refine .pd (.inr ⟨o,s,ho o (by simp [AV.objs]),hι⟩) (Rd.el_of_cells (fun vs hvs=> ?_) fun j c hj=> ?_)
      ·subst hvs;have:=(hcell _ _ he 0 (.d (.tup vs)) rfl).1;simp [AV.cell,D.cell] at this
      ·obtain⟨k1,q,k2,k3⟩:=hcell _ _ he j (.d c) (by simp [AV.cells,hj]);exact⟨k1,q,by rw[zcq hb];exact k2,k3.of_d.sealed⟩
    ·cases hd
   ·cases hd
 | @osl o off len cap b s c T hι hmk hb hl hc hL=>
  intro d os hd ho;simp only[toD] at hd
  split at hd
  ·rename_i es hes;obtain⟨ds,hds,hd⟩:=zabp.1 hd
   split at hd
   ·rename_i hlen
    cases hd
    have hob:=hr.heap _ _ (zav hes)
    cases hob with
    | row hι' hR hb' hs hsz _ hcell=>
     rw[hι] at hι';cases hι';rw[hb] at hb';cases hb'
     by_cases h0:ds=[]
     ·subst h0;simp at hlen;subst hlen;exact .sl0
     ·have hget:∀(i:Nat) (d:D),ds[i]? = some d->es[off+i]? = some (.d d):=fun i d hi=>by
         have h1:=zDv hds hi;have hlt:i<len:=by rw[<- hlen];exact (zabB.1 hi).1
         rw[zadg hlt,zado] at h1;exact h1
      have:=Rd.sl (w:=w) (R:=zeE R ι os) (es:=ds) (b:=b) (off:=off * s) (s:=s) (cap:=cap) (.inr ⟨o,s,ho o (by simp [AV.objs]),hι⟩) h0 hs (by omega) (by omega) (fun e he=>by
       obtain⟨i,hi⟩:=zab6 he;have:=hsz _ (zabK (hget i e hi));exact this) (fun i e hi=>by
       have he:=hget i e hi;refine Rd.el_of_cells (fun vs hvs=> ?_) fun j c' hj=> ?_
       ·subst hvs;have:=(hcell _ _ he 0 (.d (.tup vs)) rfl).1;simp [AV.cell,D.cell] at this
       ·obtain⟨k1,q,k2,k3⟩:=hcell _ _ he j (.d c') (by simp [AV.cells,hj]);refine⟨k1,q,?_,k3.of_d.sealed⟩;rw[zcq hb, <- k2,zach])
      rwa [hlen] at this
   ·cases hd
  ·cases hd
 | osl0=>
  intro d os hd _;simp only[toD] at hd
  split at hd
  ·obtain⟨ds,hds,hd⟩:=zabp.1 hd
   split at hd
   ·rename_i hlen
    cases hd
    have:ds=[]:=zacc.1 hlen;subst this;exact .sl0
   ·cases hd
  ·cases hd
 | @accR o b off s cap es hR hs hL hl hsz hh hm=>
  intro d os hd _;simp only[toD,Option.some.injEq] at hd;subst hd
  by_cases h0:es=[]
  ·subst h0;exact .sl0
  ·exact .sl (.inl hR) h0 hs hL hl hsz fun i e hi=>(hh i e hi).sealed
 | @accC o b s m cap es c T hι hmk hm hL hl hsz hb hc hh=>
  intro d os hd ho;simp only[toD,Option.some.injEq] at hd;subst hd
  by_cases h0:es=[]
  ·subst h0;exact .sl0
  ·unfold mark at hmk
   split at hmk
   ·rename_i q hq
    cases hmk
    cases hr.heap _ _ (zav hq) with
    | accN hι'=>rw[hι] at hι';cases hι'
    | acc _ hι' _ _ hs _=>
     rw[hι] at hι';cases hι';exact .sl (.inr ⟨o,s,ho o (by simp [AV.objs]),hι⟩) h0 hs hL hl hsz fun i e hi=>by rw[zabU];exact (hh i e hi).sealed
   ·rename_i q hq
    cases hr.heap _ _ (zav hq) with
    | frz hf=>
     obtain⟨hR,hs⟩:=hf _ _ hι;exact .sl (.inl hR) h0 hs hL hl hsz fun i e hi=>by rw[zabU];exact (hh i e hi).sealed
   ·cases hmk
 | acc0=>intro d os hd _;simp only[toD,Option.some.injEq] at hd;subst hd;exact .sl0
 | agg hl hc _ ih=>
  intro d os hd ho;simp only[toD,zabr] at hd;obtain⟨ds,hds,rfl⟩:=hd;obtain⟨h1,h2⟩:=zC3 hds;refine .agg (by omega) (fun c hc'=> ?_) fun i c u k1 k2=> ?_
  ·obtain⟨i,hi⟩:=zab6 hc';have hlt:=(zabB.1 hi).1;rw[h1] at hlt;exact zaat (h2 i _ c (zabx hlt) hi) (hc _ (zabC hlt))
  ·have hlt:=(zabB.1 k1).1;rw[h1] at hlt;have hx:=zabx hlt;exact ih i _ u hx k2 (h2 i _ c hx k1) fun o ho'=>ho o (by simp only[AV.objs];exact AV.objsL_mem (zabC hlt) ho')
 | tup hl _ ih=>
  intro d os hd ho;simp only[toD,zabr] at hd;obtain⟨ds,hds,rfl⟩:=hd;obtain⟨h1,h2⟩:=zC3 hds;refine .tup (by omega) fun i c u k1 k2=> ?_;have hlt:=(zabB.1 k1).1;rw[h1] at hlt;have hx:=zabx hlt;exact ih i _ u hx k2 (h2 i _ c hx k1) fun o ho'=>ho o (by simp only[AV.objs];exact AV.objsL_mem (zabC hlt) ho')
 | fn hl _ ih=>
  intro d os hd ho;simp only[toD,zabr] at hd;obtain⟨ds,hds,rfl⟩:=hd;obtain⟨h1,h2⟩:=zC3 hds;refine .fn (by omega) fun i c u k1 k2=> ?_;have hlt:=(zabB.1 k1).1;rw[h1] at hlt;have hx:=zabx hlt;exact ih i _ u hx k2 (h2 i _ c hx k1) fun o ho'=>ho o (by simp only[AV.objs];exact AV.objsL_mem (zabC hlt) ho')
 | _=>intro d os hd _;simp [toD] at hd
mutual
def D.flat:D->Bool
 | .int _ _=>true
 | .bool _=>true
 | .str _=>true
 | .agg cs=>D.flatL cs
 | .tup cs=>D.flatL cs
 | .sl _=>false
 | .pd _=>false
 | .fn _ cs=>D.flatL cs
 | .nil=>true
def D.flatL:List D->Bool
 | []=>true
 | x::xs=>D.flat x&&D.flatL xs
end
end Go.Sim
