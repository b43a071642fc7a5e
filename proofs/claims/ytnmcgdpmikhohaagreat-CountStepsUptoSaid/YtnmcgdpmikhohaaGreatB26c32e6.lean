/-
  Equality of structs and arrays of numbers, bools and strings.
-/
import Derived.Test.YtnmcgdpmikhohaaGreatB2d97476
set_option linter.unusedSimpArgs false
set_option linter.unusedVariables false
set_option maxHeartbeats 10000000
set_option maxRecDepth 100000
namespace Go.Sim
open Go (World Value Addr TypeId Act)
variable {P:Program} {C:Ctx} {S:St} {a:Act} {w:World} {ι:Inj} {R:Nat->Prop}
theorem zYS{f:Field}{fs:List Field}{n off:Nat}{d:Nat}{ls:List (Nat×Nat)}(h:ziW P n (zef P d) off (f::fs)=some ls):
    f.name≠ "_" /\ ∃m l1 l2,zaQ P f.type=some m/\f.offset+m<=n/\m≠0/\zef P d f.type (off+f.offset)=some l1/\ziW P n (zef P d) off fs=some l2/\ls=l1++l2:=by
 simp only[ziW] at h
 split at h
 ·rename_i m h1
  split at h
  ·rename_i hc;obtain⟨l1,h2,h⟩:=zabp.1 h;obtain⟨l2,h3,rfl⟩:=zabr.1 h;exact⟨hc.1,m,l1,l2,h1,hc.2.1,hc.2.2,h2,h3,rfl⟩
  ·cases h
 ·cases h
def zcd(ag:Bool)(n off:Nat)(X:Array Value):Value:=if ag then .agg (X.extract off (off+n)) else X.getD off Go.undef
def zkv(X Y:Array Value)(l:Nat×Nat):Option Bool:=
 match l.2,X[l.1]?,Y[l.1]? with
 | 0,some (.int k x),some (.int k' y)=>if k=k' then some (x==y) else none
 | 1,some (.bool x),some (.bool y)=>some (x==y)
 | 2,some (.string x),some (.string y)=>some (x==y)
 | _,_,_=>none
def zdK(X Y:Array Value):List (Nat×Nat)->Option Bool
 | []=>some true
 | l::ls=>(zkv X Y l).bind fun x=>(zdK X Y ls).map (x&& ·)
theorem zL4{X Y:Array Value}{l1 l2:List (Nat×Nat)}:∀ {r:Bool},zdK X Y (l1++l2)=some r->∃r1 r2,zdK X Y l1=some r1/\zdK X Y l2=some r2/\r=(r1&&r2):=by
 induction l1 with
 | nil=>intro r h;exact⟨true,r,rfl,h,by simp⟩
 | cons l ls ih=>
  intro r h;simp only[zabN,zdK] at h;obtain⟨x,hx,h⟩:=zabp.1 h;obtain⟨y,hy,rfl⟩:=zabr.1 h;obtain⟨r1,r2,h1,h2,rfl⟩:=ih hy;exact⟨x&&r1,r2,by simp [zdK,hx,h1],h2,by simp [Bool.and_assoc]⟩
theorem zsX{t:TypeId}{ag:Bool}{n m off o:Nat}{X:Array Value}(hag:zbi P t=some ag)(hm:zaQ P t=some m)(ho:o+m<=n)(hX:off+n<=X.size)(h0:m≠0):
    (part t (X.extract off (off+n)) o).run P w= .ok (zcd ag m (off+o) X) w:=by
 unfold part zcd;simp only[Sem.run_bind,zmA hag,Result.andThen_ok]
 cases ag with
 | true=>
  simp only[if_true,Sem.run_bind,zet hm,Result.andThen_ok,Sem.run_pure]
  congr 2
  rw[Array.extract_extract]
  congr 1
  all_goals omega
 | false=>
  have h1:(X.extract off (off+n))[o]? = some (X.getD (off+o) Go.undef):=by
   rw[Array.getElem?_extract_of_lt (by omega)];simp [zacZ,show off+o<X.size by omega]
  simp [h1]
theorem zU5{t:TypeId}(hu:P.underlying t=some .bool)(k:Nat)(x y:Bool):(Op.equalIn (k+1) t (.bool x) (.bool y)).run P w= .ok (x==y) w:=by
 unfold Op.equalIn;simp only[Sem.run_bind,run_underlying hu,Result.andThen_ok,Sem.run_pure]
theorem zU6{t:TypeId}{kk:IntKind}(hu:P.underlying t=some (.int kk))(k:Nat)(j:IntKind)(x y:Int):(Op.equalIn (k+1) t (.int j x) (.int j y)).run P w= .ok (x==y) w:=by
 unfold Op.equalIn;simp only[Sem.run_bind,run_underlying hu,Result.andThen_ok,if_true,Sem.run_pure]
theorem zU7{t:TypeId}(hu:P.underlying t=some .string)(k:Nat)(x y:ByteArray):(Op.equalIn (k+1) t (.string x) (.string y)).run P w= .ok (x==y) w:=by
 unfold Op.equalIn;simp only[Sem.run_bind,run_underlying hu,Result.andThen_ok,Sem.run_pure]
theorem zA5{X Y:Array Value}{l k:Nat}{r:Bool}(h:zkv X Y (l,k)=some r):
    (k=0/\∃j x y,X.getD l Go.undef= .int j x/\Y.getD l Go.undef= .int j y/\r=(x==y))\/(k=1/\∃x y,X.getD l Go.undef= .bool x/\Y.getD l Go.undef= .bool y/\r=(x==y))\/
    (k=2/\∃x y,X.getD l Go.undef= .string x/\Y.getD l Go.undef= .string y/\r=(x==y)):=by
 unfold zkv at h;simp only[zacZ]
 split at h
 ·rename_i h1 h2 h3;simp only at h1 h2 h3
  split at h
  ·rename_i e;subst e;cases h;exact .inl ⟨h1,_,_,_,by rw[h2];rfl,by rw[h3];rfl,rfl⟩
  ·cases h
 ·rename_i h1 h2 h3;simp only at h1 h2 h3
  cases h;exact .inr (.inl ⟨h1,_,_,by rw[h2];rfl,by rw[h3];rfl,rfl⟩)
 ·rename_i h1 h2 h3;simp only at h1 h2 h3
  cases h;exact .inr (.inr ⟨h1,_,_,by rw[h2];rfl,by rw[h3];rfl,rfl⟩)
 ·cases h
theorem zHL{α:Type}(body:α->Option Bool×PUnit->Sem (ForInStep (Option Bool×PUnit)))(res:α->Bool):∀(l:List α),(∀x∈l,(body x (none,())).run P w= .ok (if res x=true then .yield (none,()) else .done (some false,())) w)->
    (forIn l (none,()) body).run P w= .ok (if l.all res=true then (none,()) else (some false,())) w:=by
 intro l
 induction l with
 | nil=>intro _;simp
 | cons x l ih=>
  intro h;rw[List.forIn_cons,Sem.run_bind,h x (.head _)]
  cases hr:res x with
  | true=>simp [ih fun y hy=>h y (.tail _ hy),hr]
  | false=>simp [hr]
theorem zU9{X Y:Array Value}(hXY:X.size=Y.size):∀(d:Nat) (t:TypeId) (off n:Nat) (ls:List (Nat×Nat)) (r:Bool) (D':Nat),d<=D'->zef P d t off=some ls->zaQ P t=some n->n≠0->off+n<=X.size->zdK X Y ls=some r->
    ∃ag,zbi P t=some ag/\(Op.equalIn D' t (zcd ag n off X) (zcd ag n off Y)).run P w= .ok r w:=by
 intro d
 induction d with
 | zero=>intro t off n ls r D' _ h;simp [zef] at h
 | succ d ih=>
  intro t off n ls r D' hD h hn h0 hb hr;obtain⟨D'',rfl⟩:∃k,D'=k+1:=⟨D' - 1,by omega⟩;simp only[zef] at h;have one:∀ {k:Nat},ls=[(off,k)]->zkv X Y (off,k)=some r:=fun e=>by
   subst e;simp only[zdK,zab8] at hr;obtain⟨x,hx,hr⟩:=zabp.1 hr;simp only[zadF,Option.some.injEq] at hr;rw[hx,hr]
  split at h
  ·rename_i hu;have h1:=zA5 (one (by cases h;rfl));refine⟨false,by simp [zbi,hu],?_⟩
   rcases h1 with ⟨h1,_⟩|⟨_,x,y,h1,h2,rfl⟩|⟨h1,_⟩
   ·cases h1
   ·simp only[zcd,zabz,if_false,h1,h2];exact zU5 hu _ _ _
   ·cases h1
  ·rename_i hu;have h1:=zA5 (one (by cases h;rfl));refine⟨false,by simp [zbi,hu],?_⟩
   rcases h1 with ⟨_,j,x,y,h1,h2,rfl⟩|⟨h1,_⟩|⟨h1,_⟩
   ·simp only[zcd,zabz,if_false,h1,h2];exact zU6 hu _ _ _ _
   ·cases h1
   ·cases h1
  ·rename_i hu;have h1:=zA5 (one (by cases h;rfl));refine⟨false,by simp [zbi,hu],?_⟩
   rcases h1 with ⟨h1,_⟩|⟨h1,_⟩|⟨_,x,y,h1,h2,rfl⟩
   ·cases h1
   ·cases h1
   ·simp only[zcd,zabz,if_false,h1,h2];exact zU7 hu _ _ _
  ·rename_i fs hu;rw[hn] at h;simp only at h
   split at h
   ·cases h
   ·rename_i hst;refine⟨true,by simp [zbi,hu],?_⟩;unfold Op.equalIn;simp only[zcd,if_true,Sem.run_bind,run_underlying hu,Result.andThen_ok,run_program,hst,zabz,if_false];have key:∀(l:List Field) (ls:List (Nat×Nat)) (r:Bool),ziW P n (zef P d) off l=some ls->zdK X Y ls=some r->∃res:Field->Bool,
        (∀f∈l,f.name≠ "_" /\ ∃ag m,zbi P f.type=some ag/\zaQ P f.type=some m/\m≠0/\f.offset+m<=n/\∃q,(Op.equalIn D'' f.type (zcd ag m (off+f.offset) X) (zcd ag m (off+f.offset) Y)).run P w= .ok q w)/\
        r=l.all (fun f=>match zbi P f.type,zaQ P f.type with|some ag,some m=>(match (Op.equalIn D'' f.type (zcd ag m (off+f.offset) X) (zcd ag m (off+f.offset) Y)).run P w with| .ok q _=>q|_=>false)|_,_=>false):=by
     intro l
     induction l with
     | nil=>intro ls r h1 h2;simp [ziW] at h1;subst h1;simp [zdK] at h2;subst h2;exact⟨fun _=>true,by simp,by simp⟩
     | cons f l ihl=>
      intro ls r h1 h2;obtain⟨k0,m,l1,l2,k1,k2,k3,k4,k5,rfl⟩:=zYS h1;obtain⟨r1,r2,k6,k7,rfl⟩:=zL4 h2;obtain⟨_,k8,k9⟩:=ihl l2 r2 k5 k7;obtain⟨ag,k10,k11⟩:=ih f.type (off+f.offset) m l1 r1 D'' (by omega) k4 k1 k3 (by omega) k6;refine⟨fun _=>true,fun g hg=> ?_,?_⟩
      ·cases hg with
       | head=>exact⟨k0,ag,m,k10,k1,k3,k2,r1,k11⟩
       | tail _ hg=>exact k8 g hg
      ·rw[zacn, <- k9];simp only[k10,k1,k11]
    obtain⟨_,k1,k2⟩:=key fs.toList ls r h hr;rw[<- Array.forIn_toList];rw[zHL _ (fun f=>match zbi P f.type,zaQ P f.type with|some ag,some m=>(match (Op.equalIn D'' f.type (zcd ag m (off+f.offset) X) (zcd ag m (off+f.offset) Y)).run P w with| .ok q _=>q|_=>false)|_,_=>false) fs.toList fun f hf=> ?_]
    ·rw[<- k2]
     cases r<;>simp
    ·obtain⟨k0,ag,m,k3,k4,k5,k6,q,k7⟩:=k1 f hf;rw[zabo k0];simp only[Sem.run_bind,zsX k3 k4 k6 hb k5,zsX k3 k4 k6 (by rw[<- hXY];exact hb) k5,Result.andThen_ok,k7,k3,k4]
     cases q<;>simp
  ·rename_i len e hu;rw[hn] at h
   split at h
   ·rename_i n' m hn' he
    cases hn'
    split at h
    ·cases h
    ·rename_i hc;have hm0:m≠0:=fun h=>hc (.inl h);have hlen:len * m=n:=Classical.byContradiction fun h=>hc (.inr h);refine⟨true,by simp [zbi,hu],?_⟩;unfold Op.equalIn;simp only[zcd,if_true,Sem.run_bind,run_underlying hu,Result.andThen_ok,zet he];have key:∀(k base:Nat) (ls:List (Nat×Nat)) (r:Bool),zkx m (zef P d e) (off+base * m) k=some ls->zdK X Y ls=some r->base+k=len->
         (∀i∈List.range' base k,∃ag,zbi P e=some ag/\∃q,(Op.equalIn D'' e (zcd ag m (off+i * m) X) (zcd ag m (off+i * m) Y)).run P w= .ok q w)/\
         r=(List.range' base k).all (fun i=>match zbi P e with|some ag=>(match (Op.equalIn D'' e (zcd ag m (off+i * m) X) (zcd ag m (off+i * m) Y)).run P w with| .ok q _=>q|_=>false)|_=>false):=by
      intro k
      induction k with
      | zero=>intro base ls r h1 h2 _;simp [zkx] at h1;subst h1;simp [zdK] at h2;subst h2;simp
      | succ k ihk=>
       intro base ls r h1 h2 hbk;simp only[zkx] at h1;obtain⟨l1,k4,h1⟩:=zabp.1 h1;obtain⟨l2,k5,rfl⟩:=zabr.1 h1;obtain⟨r1,r2,k6,k7,rfl⟩:=zL4 h2;have k5':zkx m (zef P d e) (off+(base+1) * m) k=some l2:=by rw[zach,Nat.one_mul, <- zadx];exact k5
       obtain⟨k8,k9⟩:=ihk (base+1) l2 r2 k5' k7 (by omega);have hroom:(base+1) * m<=len * m:=zab2 _ (by omega);rw[zach] at hroom;obtain⟨ag,k10,k11⟩:=ih e (off+base * m) m l1 r1 D'' (by omega) k4 he hm0 (by omega) k6;rw[zacX];refine⟨fun i hi=> ?_,?_⟩
       ·cases hi with
        | head=>exact⟨ag,k10,r1,k11⟩
        | tail _ hi=>exact k8 i hi
       ·rw[zacn, <- k9];simp only[k10,k11]
     obtain⟨k1,k2⟩:=key len 0 ls r (by simpa using h) hr (by omega);rw[Std.Legacy.Range.forIn_eq_forIn_range'];rw[zHL _ (fun i=>match zbi P e with|some ag=>(match (Op.equalIn D'' e (zcd ag m (off+i * m) X) (zcd ag m (off+i * m) Y)).run P w with| .ok q _=>q|_=>false)|_=>false) _ fun i hi=> ?_]
     ·simp only[Std.Legacy.Range.size,zacO,Nat.add_one_sub_one,Nat.div_one];rw[<- k2]
      cases r<;>simp
     ·have hi':i∈List.range' 0 len:=by simpa [Std.Legacy.Range.size] using hi
      obtain⟨ag,k3,q,k7⟩:=k1 i hi';have hlt:i<len:=by have:=List.mem_range'.1 hi';omega
      have hroom:(i+1) * m<=len * m:=zab2 _ (by omega);rw[zach] at hroom;simp only[Sem.run_bind,zsX k3 he (show i * m+m<=n by omega) hb hm0,zsX k3 he (show i * m+m<=n by omega) (show off+n<=Y.size by rw[<- hXY];exact hb) hm0,Result.andThen_ok,k7,k3]
      cases q<;>simp
   ·cases h
  ·cases h
theorem zYR {zabm bs:List D} {xs ys:List Value} (hx:xs.length=zabm.length/\∀(i:Nat) (c:D) (u:Value),zabm[i]? = some c->xs[i]? = some u->Rd w R (.v c u))
    (hy:ys.length=bs.length/\∀(i:Nat) (c:D) (u:Value),bs[i]? = some c->ys[i]? = some u->Rd w R (.v c u)):∀ {ls:List (Nat×Nat)} {r:Bool},zgN zabm bs ls=some r->zdK xs.toArray ys.toArray ls=some r:=by
 intro ls
 induction ls with
 | nil=>intro r h;simpa [zgN,zdK] using h
 | cons l ls ih=>
  intro r h;simp only[zgN] at h;obtain⟨b,hb,h⟩:=zabp.1 h;obtain⟨b',hb',rfl⟩:=zabr.1 h;have get:∀ {zabm:List D} {xs:List Value} {c:D},(xs.length=zabm.length/\∀(i:Nat) (c:D) (u:Value),zabm[i]? = some c->xs[i]? = some u->Rd w R (.v c u))->zabm[l.1]? = some c->∃u,xs[l.1]? = some u/\Rd w R (.v c u):=by
   intro zabm xs c h1 h2;have hlt:=(zabB.1 h2).1;exact⟨_,zabx (by omega),h1.2 _ _ _ h2 (zabx (by omega))⟩
  have:zkv xs.toArray ys.toArray l=some b:=by
   unfold zvm at hb;unfold zkv
   split at hb
   ·rename_i k x k' y h1 h2 h3
    split at hb
    ·rename_i e;subst e;obtain⟨u,k1,k2⟩:=get hx h2;obtain⟨u',k3,k4⟩:=get hy h3
     cases k2;cases k4
     cases hb
     simp [h1,k1,k3,Bool.beq_eq_decide_eq]
    ·cases hb
   ·rename_i x y h1 h2 h3;obtain⟨u,k1,k2⟩:=get hx h2;obtain⟨u',k3,k4⟩:=get hy h3
    cases k2;cases k4
    cases hb
    simp [h1,k1,k3]
   ·rename_i x y h1 h2 h3;obtain⟨u,k1,k2⟩:=get hx h2;obtain⟨u',k3,k4⟩:=get hy h3
    cases k2;cases k4
    cases hb
    simp [h1,k1,k3];have:((⟨x.toArray⟩:ByteArray)==⟨y.toArray⟩)=decide (x=y):=by
     rw[zacD];show (x.toArray==y.toArray)=true↔_;simp
    simpa using this
   ·cases hb
  simp [zdK,this,ih hb']
theorem zrl {o:Oper} {bop:BinOp} {t u:TypeId} {y z:Operand} {y' z':Opd} {n:Nat} {ls:List (Nat×Nat)} {ng:Bool} {dst:Nat} {v:AV} {H':zd} (hop:o.op= .binOp bop t y z u) (hb:bop=if ng then .neq else .eql)
    (hl:zef P 9 t 0=some ls) (hag:zbi P t=some true) (hg:P.eqGuardType P.depth t=false) (hn:zaQ P t=some n) (h0:n≠0) (hy:opd y=some y') (hz:opd z=some z') (h:Rel C S a w ι R)
    (hs:zr S.env S.heap dst (.eqs ng n ls y' z')=some (v,H')):zR C S a v H' ((execOp a.eval o).run P w):=by
 simp only[zr] at hs
 split at hs
 ·rename_i zabm bs h1 h2
  split at hs
  ·rename_i hc;obtain⟨r,hr,hs⟩:=zabr.1 hs
   cases hs
   have e1:=h.ev hy;rw[h1] at e1;have e2:=h.ev hz;rw[h2] at e2;generalize hav:a.eval y=av at e1;generalize hbv:a.eval z=bv at e2;have e1:=e1.of_d;have e2:=e2.of_d
   cases e1 with
   | @agg _ xs hx1 _ hx2=>
    cases e2 with
    | @agg _ ys hy1 _ hy2=>
     have hle:=zYR ⟨hx1,hx2⟩ ⟨hy1,hy2⟩ hr;obtain⟨ag,hag',hrun⟩:=zU9 (P:=P) (w:=w) (X:=xs.toArray) (Y:=ys.toArray) (by simp;omega) 9 t 0 n ls r Op.maxDepth (by decide) hl hn h0 (by simp;omega) hle;rw[hag] at hag';cases hag';have hv:∀zs:List Value,zs.length=n->zcd true n 0 zs.toArray= .agg zs.toArray:=fun zs hz=>by
      simp only[zcd,if_true,zabU];rw[<- hz];simp
     rw[hv xs (by omega),hv ys (by omega)] at hrun;refine zR.same h (.d .bool) (u:= .bool (if ng=true then !r else r)) ?_;subst hb;have hrun':(Op.equal t (.agg xs.toArray) (.agg ys.toArray)).run P w= .ok r w:=hrun
     cases ng<;>simp [execOp,hop,hav,hbv,eqGuard,Go.binOp,hrun',hg]
  ·cases hs
 ·cases hs
end Go.Sim
