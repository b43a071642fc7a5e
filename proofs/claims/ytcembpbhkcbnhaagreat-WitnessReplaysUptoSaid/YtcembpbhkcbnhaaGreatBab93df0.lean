/-
  Loads, addresses, parts of values.
-/
import Derived.Calls
import Derived.Laws.Sem
import Derived.Laws.World
import Derived.Laws.Rows
import Derived.Below
import Derived.Deep.MidRow
import Derived.Deep.AppendSrc
import Derived.Lib.Strings
set_option linter.unusedSimpArgs false
set_option linter.unusedVariables false
set_option maxHeartbeats 10000000
set_option maxRecDepth 100000
abbrev zabn:=@if_neg
abbrev zabo:=@if_pos
abbrev zabp:=@Option.bind_eq_some_iff
abbrev zabq:=@List.map_nil
abbrev zabr:=@Option.map_eq_some_iff
abbrev zabs:=@List.map_cons
abbrev zabt:=@eq_false
abbrev zabu:=@List.length_cons
abbrev zabv:=@List.length_append
abbrev zabw:=@List.length_nil
abbrev zabx:=@List.getElem?_eq_getElem
abbrev zaby:=@List.mem_map
abbrev zabz:=@Bool.false_eq_true
abbrev zabA:=@eq_true
abbrev zabB:=@List.getElem?_eq_some_iff
abbrev zabC:=@List.getElem_mem
abbrev zabD:=@not_true_eq_false
abbrev zabE:=@List.length_map
abbrev zabF:=@List.map_append
abbrev zabG:=@Classical.not_not
abbrev zabH:=@Bool.and_eq_true
abbrev zabI:=@List.getElem?_map
abbrev zabJ:=@List.nil_append
abbrev zabK:=@List.mem_of_getElem?
abbrev zabL:=@List.append_nil
abbrev zabM:=@decide_eq_true
abbrev zabN:=@List.cons_append
abbrev zabO:=@List.all_eq_true
abbrev zabP:=@decide_eq_false
abbrev zabQ:=@Int.natCast_zero
abbrev zabR:=@Nat.le_refl
abbrev zabS:=@List.mem_append
abbrev zabT:=@Option.bind_eq_bind
abbrev zabU:=@Nat.zero_add
abbrev zabV:=@not_false_eq_true
abbrev zabW:=@Option.pure_def
abbrev zabX:=@List.drop_eq_getElem_cons
abbrev zabY:=@Option.bind_some
abbrev zabZ:=@List.drop_zero
abbrev zab0:=@List.getD_eq_getElem?_getD
abbrev zab1:=@List.mem_singleton
abbrev zab2:=@Nat.mul_le_mul_right
abbrev zab3:=@List.length_singleton
abbrev zab4:=@List.mem_cons
abbrev zab5:=@Int.toNat_natCast
abbrev zab6:=@List.getElem?_of_mem
abbrev zab7:=@List.drop_length
abbrev zab8:=@Option.map_some
abbrev zab9:=@List.append_assoc
abbrev zaca:=@Nat.le_trans
abbrev zacb:=@List.length_set
abbrev zacc:=@List.length_eq_zero_iff
abbrev zacd:=@Bool.false_and
abbrev zace:=@Bool.not_eq_true'
abbrev zacf:=@Bool.true_eq_false
abbrev zacg:=@List.take_zero
abbrev zach:=@Nat.add_mul
abbrev zaci:=@Classical.choose_spec
abbrev zacj:=@Bool.or_eq_true
abbrev zack:=@List.mem_range
abbrev zacl:=@Array.getElem?_eq_some_iff
abbrev zacm:=@List.any_eq_true
abbrev zacn:=@List.all_cons
abbrev zaco:=@Nat.lt_of_lt_of_le
abbrev zacp:=@List.length_replicate
abbrev zacq:=@Nat.succ_mul
abbrev zacr:=@Nat.mod_lt
abbrev zacs:=@Int.natCast_add
abbrev zact:=@List.findIdx?_eq_some_iff_getElem
abbrev zacu:=@List.pairwise_iff_getElem
abbrev zacv:=@List.nodup_cons
abbrev zacw:=@List.map_set
abbrev zacx:=@Nat.mod_eq_of_lt
abbrev zacy:=@Int.natCast_one
abbrev zacz:=@false_and
abbrev zacA:=@Bool.true_and
abbrev zacB:=@true_and
abbrev zacC:=@List.any_eq_false
abbrev zacD:=@Bool.eq_iff_iff
abbrev zacE:=@List.getElem?_append_right
abbrev zacF:=@List.length_filter_le
abbrev zacG:=@Bool.and_self
abbrev zacH:=@Bool.false_or
abbrev zacI:=@Nat.add_zero
abbrev zacJ:=@Bool.and_false
abbrev zacK:=@and_self
abbrev zacL:=@List.filter_cons
abbrev zacM:=@List.mem_append_left
abbrev zacN:=@List.getElem?_append_left
abbrev zacO:=@Nat.sub_zero
abbrev zacP:=@or_false
abbrev zacQ:=@List.map_map
abbrev zacR:=@List.map_congr_left
abbrev zacS:=@Option.getD_some
abbrev zacT:=@and_true
abbrev zacU:=@List.mapM_cons
abbrev zacV:=@Option.isSome_iff_exists
abbrev zacW:=@List.mem_filter
abbrev zacX:=@List.range'_succ
abbrev zacY:=@Bool.or_eq_false_iff
abbrev zacZ:=@Array.getD_eq_getD_getElem?
abbrev zac0:=@List.length_pos_iff
abbrev zac1:=@List.mem_or_eq_of_mem_set
abbrev zac2:=@Int.tdiv_eq_ediv_of_nonneg
abbrev zac3:=@Bool.not_eq_true
abbrev zac4:=@List.any_cons
abbrev zac5:=@List.filter_nil
abbrev zac6:=@List.nodup_append
abbrev zac7:=@List.map_take
abbrev zac8:=@List.mem_of_mem_take
abbrev zac9:=@List.length_take
abbrev zada:=@List.take_of_length_le
abbrev zadb:=@List.singleton_append
abbrev zadc:=@List.getElem_of_mem
abbrev zadd:=@List.pairwise_cons
abbrev zade:=@List.perm_middle
abbrev zadf:=@Int.cast_ofNat_Int
abbrev zadg:=@List.getElem?_take_of_lt
abbrev zadh:=@List.getElem?_set
abbrev zadi:=@List.not_mem_nil
abbrev zadj:=@List.mem_range'_1
abbrev zadk:=@Bool.true_or
abbrev zadl:=@List.getElem?_eq_none
abbrev zadm:=@Nat.lt_or_ge
abbrev zadn:=@List.mem_append_right
abbrev zado:=@List.getElem?_drop
abbrev zadp:=@List.exists_mem_of_ne_nil
abbrev zadq:=@true_or
abbrev zadr:=@and_false
abbrev zads:=@Int.le_refl
abbrev zadt:=@List.flatten_nil
abbrev zadu:=@List.mem_iff_getElem
abbrev zadv:=@List.findIdx?_eq_none_iff
abbrev zadw:=@List.mem_map_of_mem
abbrev zadx:=@Nat.add_assoc
abbrev zady:=@Array.toList_map
abbrev zadz:=@Nat.mul_comm
abbrev zadA:=@List.length_drop
abbrev zadB:=@Int.not_lt
abbrev zadC:=@Int.natCast_mul
abbrev zadD:=@Bool.decide_and
abbrev zadE:=@List.getElem_map
abbrev zadF:=@Bool.and_true
abbrev zadG:=@List.getElem?_cons_zero
abbrev zadH:=@Nat.zero_lt_succ
abbrev zadI:=@List.getElem?_toArray
abbrev zadJ:=@List.isEmpty_iff
abbrev zadK:=@List.range_eq_range'
abbrev zadL:=@Nat.sub_self
abbrev zadM:=@Array.getElem?_setIfInBounds
abbrev zadN:=@Array.getElem?_eq_none
abbrev zadO:=@List.map_drop
abbrev zadP:=@List.mem_replicate
abbrev zadQ:=@List.mem_of_mem_drop
abbrev zadR:=@Nat.lt_trichotomy
abbrev zadS:=@Int.tmod_nonneg
abbrev zadT:=@Int.tmod_lt_of_pos
abbrev zadU:=@List.take_add_one
abbrev zadV:=@Int.ofNat_tmod
abbrev zadW:=@List.nodup_iff_pairwise_ne
abbrev zadX:=@List.perm_append_comm
abbrev zadY:=@Bool.eq_false_iff
abbrev zadZ:=@List.getElem_cons_succ
abbrev zad0:=@Nat.add_mod_right
abbrev zad1:=@List.map_replicate
abbrev zad2:=@List.getElem?_cons_succ
abbrev zad3:=@Bool.not_true
abbrev zad4:=@Bool.not_false
abbrev zad5:=@Array.getElem?_append_left
abbrev zad6:=@Array.getElem?_eq_getElem
abbrev zad7:=@List.nodup_nil
abbrev zad8:=@Array.getElem?_modify
abbrev zad9:=@Array.getElem?_setIfInBounds_self_of_lt
abbrev zaea:=@Array.getElem?_setIfInBounds_ne
abbrev zaeb:=@Array.foldl_toList
abbrev zaec:=@Array.getElem?_toList
abbrev zaed:=@List.getElem?_take
abbrev zaee:=@List.eq_of_mem_replicate
abbrev zaef:=@List.drop_of_length_le
abbrev zaeg:=@List.drop_eq_nil_of_le
abbrev zaeh:=@List.drop_left
abbrev zaei:=@List.flatten_cons
abbrev zaej:=@List.range_succ
abbrev zaek:=@List.filter_append
abbrev zael:=@Nat.lt_irrefl
abbrev zaem:=@Int.tmod_eq_emod_of_nonneg
abbrev zaen:=@Bool.not_eq_false
abbrev zaeo:=@Int.toNat_of_nonneg
abbrev zaep:=@List.mem_cons_of_mem
abbrev zaeq:=@List.filter_eq_nil_iff
abbrev zaer:=@List.ext_getElem
abbrev zaes:=@List.eraseIdx_eq_take_drop_succ
abbrev zaet:=@List.take_append_drop
abbrev zaeu:=@List.length_eraseIdx
abbrev zaev:=@List.pairwise_map
abbrev zaew:=@List.length_range
abbrev zaex:=@Array.mapM_eq_mapM_toList
abbrev zaey:=@List.eq_nil_of_length_eq_zero
abbrev zaez:=@List.getElem?_replicate
abbrev zaeA:=@Int.fdiv_eq_ediv_of_nonneg
abbrev zaeB:=@List.length_erase_of_mem
abbrev zaeC:=@List.mem_of_mem_eraseIdx

namespace Go.Sim
inductive D where
 | int (k:IntKind) (n:Int)
 | bool (b:Bool)
 | str (s:List UInt8)
 | agg (cs:List D)
 | tup (vs:List D)
 | sl (es:List D)
 | pd (x:D)
 | fn (f:FuncId) (caps:List D)
 | nil
 deriving Inhabited
def D.cells:D->List D
 | .agg cs=>cs
 | x=>[x]
def D.size(x:D):Nat:=x.cells.length
def D.cell:D->Bool
 | .agg _=>false
 | .tup _=>false
 | _=>true
def LIM:Nat:=4294967296
def zZ8:Value->Bool
 | .pointer none=>true
 | .nilFunc=>true
 | .nilIface=>true
 | _=>false
inductive It where
 | v (x:D) (u:Value)
 | el (x:D) (b off:Nat)
inductive Rd(w:World)(R:Nat->Prop):It->Prop
 | int {k:IntKind} {n:Int} (h:k.has n):Rd w R (.v (.int k n) (.int k n))
 | bool {b:Bool}:Rd w R (.v (.bool b) (.bool b))
 | str {s:List UInt8} (h:s.length<=LIM):Rd w R (.v (.str s) (.string ⟨s.toArray⟩))
 | agg {cs:List D} {vs:List Value} (hl:vs.length=cs.length) (hc:∀c∈cs,c.cell=true)
     (h:∀(i:Nat) (c:D) (u:Value),cs[i]? = some c->vs[i]? = some u->Rd w R (.v c u)):Rd w R (.v (.agg cs) (.agg vs.toArray))
 | tup {cs:List D} {vs:List Value} (hl:vs.length=cs.length)
     (h:∀(i:Nat) (c:D) (u:Value),cs[i]? = some c->vs[i]? = some u->Rd w R (.v c u)):Rd w R (.v (.tup cs) (.tuple vs.toArray))
 | sl0 {a:Option Addr} {cap:Nat}:Rd w R (.v (.sl []) (.slice a 0 cap))
 | sl {es:List D} {b off s cap:Nat} (hR:R b) (h0:es≠[]) (hs:0<s) (hl:es.length<=LIM) (hcap:es.length<=cap) (hsz:∀e∈es,e.size=s)
     (h:∀(i:Nat) (e:D),es[i]? = some e->Rd w R (.el e b (off+i * s))):Rd w R (.v (.sl es) (.slice (some ⟨b,off,none⟩) es.length cap))
 | pd {x:D} {b off:Nat} (hR:R b) (h:Rd w R (.el x b off)):Rd w R (.v (.pd x) (.pointer (some ⟨b,off,none⟩)))
 | fn {f:FuncId} {cs:List D} {vs:List Value} (hl:vs.length=cs.length)
     (h:∀(i:Nat) (c:D) (u:Value),cs[i]? = some c->vs[i]? = some u->Rd w R (.v c u)):Rd w R (.v (.fn f cs) (.func (.func f) #[] vs.toArray))
 | nil {u:Value} (h:zZ8 u=true):Rd w R (.v .nil u)
 | elagg {cs:List D} {b off:Nat} (hc:∀c∈cs,c.cell=true)
     (h:∀(i:Nat) (c:D),cs[i]? = some c->Rd w R (.el c b (off+i))):Rd w R (.el (.agg cs) b off)
 | elc {x:D} {u:Value} {b off:Nat} (hc:x.cell=true) (hv:w.cell? ⟨b,off,none⟩=some u) (h:Rd w R (.v x u)):Rd w R (.el x b off)
theorem zalU{u:Value}(h:zZ8 u=true):u.cells= #[u]:=by cases u<;>first|rfl|cases h
theorem D.size_cell{x:D}(h:x.cell=true):x.size=1:=by cases x<;>simp_all [D.cell,D.size,D.cells]
theorem D.cells_cell{x:D}(h:x.cell=true):x.cells=[x]:=by cases x<;>simp_all [D.cell,D.cells]
def zbK(R:Nat->Prop)(w w':World):Prop:=∀b,R b->w'.heap[b]? = w.heap[b]?
def It.near(w w':World):It->Prop
 | .v _ _=>True
 | .el x b off=>∀j,j<x.size->w'.cell? ⟨b,off+j,none⟩=w.cell? ⟨b,off+j,none⟩
theorem Rd.mono{w w':World}{R R':Nat->Prop}{it:It}(h:Rd w R it)(hR:∀b,R b->R' b)(hw:zbK R w w')(hn:it.near w w'):Rd w' R' it:=by
 induction h with
 | int h=>exact .int h
 | bool=>exact .bool
 | str h=>exact .str h
 | agg hl hc _ ih=>exact .agg hl hc fun i c u h1 h2=>ih i c u h1 h2 trivial
 | tup hl _ ih=>exact .tup hl fun i c u h1 h2=>ih i c u h1 h2 trivial
 | sl0=>exact .sl0
 | sl hr h0 hs hl hcap hsz _ ih=>exact .sl (hR _ hr) h0 hs hl hcap hsz fun i e h1=>ih i e h1 fun j _=>World.cell?_of_block (hw _ hr)
 | pd hr _ ih=>exact .pd (hR _ hr) (ih fun j _=>World.cell?_of_block (hw _ hr))
 | fn hl _ ih=>exact .fn hl fun i c u h1 h2=>ih i c u h1 h2 trivial
 | nil h=>exact .nil h
 | @elagg cs b off hc _ ih=>
  refine .elagg hc fun i c h1=>ih i c h1 fun j hj=> ?_;have hi:i<cs.length:=(zabB.1 h1).1;have hcl:c.cell=true:=hc c (zabK h1);rw[D.size_cell hcl] at hj;have:=hn i (by simpa [D.size,D.cells] using hi);have hj0:j=0:=by omega
  subst hj0;simpa using this
 | @elc x u b off hc hv _ ih=>
  refine .elc hc ?_ (ih trivial);have:=hn 0 (by rw[D.size_cell hc];omega);simpa [hv] using this
theorem Rd.mono_v{w w':World}{R R':Nat->Prop}{x:D}{u:Value}(h:Rd w R (.v x u))(hR:∀b,R b->R' b)(hw:zbK R w w'):Rd w' R' (.v x u):=h.mono hR hw trivial
theorem Rd.cells_of_v{w:World}{R:Nat->Prop}{x:D}{u:Value}(h:Rd w R (.v x u))(hx:∀vs,x≠ .tup vs):
    u.cells.size=x.size/\∀(i:Nat) (c:D),x.cells[i]? = some c->c.cell=true/\∃q,u.cells[i]? = some q/\Rd w R (.v c q):=by
 have one:∀(x:D) (u:Value),x.cells=[x]->u.cells= #[u]->x.cell=true->Rd w R (.v x u)->(u.cells.size=x.size/\∀(i:Nat) (c:D),x.cells[i]? = some c->c.cell=true/\∃q,u.cells[i]? = some q/\Rd w R (.v c q)):=by
  intro x u h1 h2 h3 h4;refine⟨by simp [D.size,h1,h2],fun i c hc=> ?_⟩;rw[h1] at hc
  match i,hc with
  | 0,hc=>simp at hc;subst hc;exact⟨h3,u,by simp [h2],h4⟩
  | n+1,hc=>simp at hc
 generalize hit:It.v x u=it at h
 cases h with
 | agg hl hc h=>
  injection hit with e1 e2;subst e1 e2
  refine⟨by simp [Value.cells,D.size,D.cells,hl],fun i c hi=> ?_⟩;simp only[D.cells] at hi;have hlt:i<_:=(zabB.1 hi).1;rename_i cs vs;have hq:vs[i]? = some (vs[i]'(by omega)):=zabx _;exact⟨hc c (zabK hi),_,by simp only[Value.cells,zadI];exact hq,h i c _ hi hq⟩
 | tup hl h=>injection hit with e1 e2;exact absurd e1 (hx _)
 | int h=>injection hit with e1 e2;subst e1 e2;exact one _ _ rfl rfl rfl (.int h)
 | bool=>injection hit with e1 e2;subst e1 e2;exact one _ _ rfl rfl rfl .bool
 | str h=>injection hit with e1 e2;subst e1 e2;exact one _ _ rfl rfl rfl (.str h)
 | sl0=>injection hit with e1 e2;subst e1 e2;exact one _ _ rfl rfl rfl .sl0
 | sl a b c d e f g=>injection hit with e1 e2;subst e1 e2;exact one _ _ rfl rfl rfl (.sl a b c d e f g)
 | pd a b=>injection hit with e1 e2;subst e1 e2;exact one _ _ rfl rfl rfl (.pd a b)
 | fn a b=>injection hit with e1 e2;subst e1 e2;exact one _ _ rfl rfl rfl (.fn a b)
 | nil h=>injection hit with e1 e2;subst e1 e2;exact one _ _ rfl (zalU h) rfl (.nil h)
 | elagg=>cases hit
 | elc=>cases hit
theorem Rd.v_of_cells{w:World}{R:Nat->Prop}{x:D}{b off:Nat}(h:Rd w R (.el x b off)):
    ∀(i:Nat) (c:D),x.cells[i]? = some c->c.cell=true/\∃q,w.cell? ⟨b,off+i,none⟩=some q/\Rd w R (.v c q):=by
 intro i c hi
 cases h with
 | elagg hc h=>
  simp only[D.cells] at hi;have h1:=h i c hi;have h2:=hc c (zabK hi)
  cases h1 with
  | elagg=>simp [D.cell] at h2
  | elc hc' hv h=>exact⟨h2,_,hv,h⟩
 | elc hc hv h=>
  rw[D.cells_cell hc] at hi
  match i,hi with
  | 0,hi=>simp at hi;subst hi;exact⟨hc,_,by simpa using hv,h⟩
  | n+1,hi=>simp at hi
theorem Rd.el_of_cells {w:World} {R:Nat->Prop} {x:D} {b off:Nat} (hx:∀vs,x≠ .tup vs)
    (h:∀(i:Nat) (c:D),x.cells[i]? = some c->c.cell=true/\∃q,w.cell? ⟨b,off+i,none⟩=some q/\Rd w R (.v c q)):Rd w R (.el x b off):=by
 by_cases hc:x.cell=true
 ·obtain⟨_,q,h1,h2⟩:=h 0 x (by rw[D.cells_cell hc];rfl);exact .elc hc (by simpa using h1) h2
 ·cases x with
  | agg cs=>
   refine .elagg (fun c hc=> ?_) fun i c hi=> ?_
   ·obtain⟨i,hi⟩:=zab6 hc;exact (h i c hi).1
   ·obtain⟨h0,q,h1,h2⟩:=h i c hi;exact .elc h0 h1 h2
  | tup vs=>exact absurd rfl (hx vs)
  | _=>simp [D.cell] at hc
inductive AV where
 | d (x:D)
 | ref (o i off:Nat)
 | osl (o off len:Nat)
 | acc (o:Nat) (es:List D)
 | pe (o:Nat) (x:D)
 | xsl (es:List D)
 | agg (cs:List AV)
 | tup (vs:List AV)
 | fn (f:FuncId) (caps:List AV)
 | nl (b:Bool)
 | mpr (o:Nat)
 | undef
 deriving Inhabited
def AV.cells:AV->List AV
 | .d x=>x.cells.map .d
 | .agg cs=>cs
 | x=>[x]
def AV.size:AV->Nat
 | .d x=>x.size
 | .agg cs=>cs.length
 | _=>1
def AV.cell:AV->Bool
 | .d x=>x.cell
 | .agg _=>false
 | .tup _=>false
 | .undef=>false
 | _=>true
theorem AV.size_cells(x:AV):x.cells.length=x.size:=by cases x<;>simp [AV.cells,AV.size,D.size]
mutual
def AV.refs(o:Nat):AV->Bool
 | .ref p _ _=>p==o
 | .osl p _ _=>p==o
 | .acc p _=>p==o
 | .pe p _=>p==o
 | .agg cs=>AV.refsL o cs
 | .tup vs=>AV.refsL o vs
 | .fn _ cs=>AV.refsL o cs
 | .d _=>false
 | .xsl _=>false
 | .nl _=>false
 | .mpr p=>p==o
 | .undef=>false
def AV.refsL(o:Nat):List AV->Bool
 | []=>false
 | x::xs=>AV.refs o x||AV.refsL o xs
end
theorem AV.refsL_mem{o:Nat}{x:AV}{xs:List AV}(h:x∈xs)(hx:AV.refs o x=true):AV.refsL o xs=true:=by
 induction xs with
 | nil=>cases h
 | cons y ys ih=>
  simp only[AV.refsL,zacj]
  cases h with
  | head=>exact .inl hx
  | tail _ h=>exact .inr (ih h)
theorem AV.refsL_false{o:Nat}{x:AV}{xs:List AV}(h:x∈xs)(hx:AV.refsL o xs=false):AV.refs o x=false:=by
 cases hh:AV.refs o x with
 | false=>rfl
 | true=>rw[AV.refsL_mem h hh] at hx;cases hx
inductive Obj where
 | row (es:List AV)
 | acc (n:Nat)
 | frz (m:Option Nat)
 | mp (es:List (Int×D))
 deriving Inhabited
def Obj.refs(o:Nat):Obj->Bool
 | .row es=>AV.refsL o es
 | .acc _=>false
 | .frz _=>false
 | .mp _=>false
abbrev zd:=List (Nat×Obj)
abbrev Env:=List (Nat×AV)
structure St where
 env:Env
 heap:zd
def look{α:Type}(k:Nat):List (Nat×α)->Option α
 | []=>none
 | (j,x)::l=>if j=k then some x else look k l
def zd0{α:Type}(k:Nat):List (Nat×α)->List (Nat×α)
 | []=>[]
 | (j,x)::l=>if j=k then zd0 k l else (j,x)::zd0 k l
def zP{α:Type}(k:Nat)(x:α)(l:List (Nat×α)):List (Nat×α):=(k,x)::zd0 k l
theorem zav{α:Type}{k:Nat}{l:List (Nat×α)}{x:α}(h:look k l=some x):(k,x)∈l:=by
 induction l with
 | nil=>cases h
 | cons p l ih=>
  obtain⟨j,y⟩:=p;simp only[look] at h
  split at h
  ·rename_i e;subst e;cases h;exact .head _
  ·exact .tail _ (ih h)
theorem zi1{α:Type}{k:Nat}{l:List (Nat×α)}{p:Nat×α}:p∈zd0 k l↔p∈l/\p.1≠k:=by
 induction l with
 | nil=>simp [zd0]
 | cons q l ih=>
  obtain⟨j,y⟩:=q;simp only[zd0]
  by_cases e:j=k
  ·rw[zabo e,ih];constructor
   ·exact fun⟨a,b⟩=>⟨.tail _ a,b⟩
   ·rintro⟨a,b⟩
    cases a with
    | head=>exact absurd e b
    | tail _ a=>exact⟨a,b⟩
  ·rw[zabn e];constructor
   ·intro h
    cases h with
    | head=>exact⟨.head _,e⟩
    | tail _ h=>exact⟨.tail _ (ih.1 h).1,(ih.1 h).2⟩
   ·rintro⟨a,b⟩
    cases a with
    | head=>exact .head _
    | tail _ a=>exact .tail _ (ih.2 ⟨a,b⟩)
theorem zZl{α:Type}{k j:Nat}{l:List (Nat×α)}(h:j≠k):look j (zd0 k l)=look j l:=by
 induction l with
 | nil=>rfl
 | cons p l ih=>
  obtain⟨i,y⟩:=p;simp only[zd0,look]
  by_cases e:i=k
  ·rw[zabo e,ih,zabn (by omega)]
  ·rw[zabn e,look,ih]
@[simp] theorem zZk{α:Type}{k:Nat}{x:α}{l:List (Nat×α)}:look k (zP k x l)=some x:=by simp [zP,look]
theorem zMf{α:Type}{k j:Nat}{x:α}{l:List (Nat×α)}(h:j≠k):look j (zP k x l)=look j l:=by
 simp only[zP,look];rw[zabn (Ne.symm h),zZl h]
def zaX(o:Nat):Env->Bool
 | []=>false
 | (_,x)::l=>x.refs o||zaX o l
def zaq(o:Nat):zd->Bool
 | []=>false
 | (_,x)::l=>x.refs o||zaq o l
theorem znm{o t:Nat}{x:AV}{l:Env}(h:(t,x)∈l)(hx:zaX o l=false):x.refs o=false:=by
 induction l with
 | nil=>cases h
 | cons p l ih=>
  simp only[zaX,zacY] at hx
  cases h with
  | head=>exact hx.1
  | tail _ h=>exact ih h hx.2
theorem zhd{o t:Nat}{x:Obj}{l:zd}(h:(t,x)∈l)(hx:zaq o l=false):x.refs o=false:=by
 induction l with
 | nil=>cases h
 | cons p l ih=>
  simp only[zaq,zacY] at hx
  cases h with
  | head=>exact hx.1
  | tail _ h=>exact ih h hx.2
def mark(H:zd)(o:Nat):Option Nat:=
 match look o H with
 | some (.acc n)=>some n
 | some (.frz m)=>m
 | _=>none
abbrev Inj:=Nat->Option (Nat×Nat)
inductive VA(w:World)(R:Nat->Prop)(ι:Inj)(mk:Nat->Option Nat):AV->Value->Prop
 | d {x:D} {u:Value} (h:Rd w R (.v x u)):VA w R ι mk (.d x) u
 | ref {o i off b s:Nat} (h:ι o=some (b,s)) (hmk:mk o=none):VA w R ι mk (.ref o i off) (.pointer (some ⟨b,i * s+off,none⟩))
 | osl {o off len cap b s:Nat} {c:Array Value} {T:TypeId} (h:ι o=some (b,s)) (hmk:mk o=none) (hb:w.heap[b]? = some (.cells c T (0,0)))
     (hl:len<=cap) (hc:(off+cap) * s<=c.size) (hL:len<=LIM):VA w R ι mk (.osl o off len) (.slice (some ⟨b,off * s,none⟩) len cap)
 | osl0 {o off:Nat} {a:Option Addr}:VA w R ι mk (.osl o off 0) (.slice a 0 0)
 | accR {o b off s cap:Nat} {es:List D} (hR:R b) (hs:0<s) (hL:es.length<=LIM) (hl:es.length<=cap) (hsz:∀e∈es,e.size=s)
     (h:∀(i:Nat) (e:D),es[i]? = some e->Rd w R (.el e b (off+i * s))) (hm:∀m,mk o=some m->es.length<m):
     VA w R ι mk (.acc o es) (.slice (some ⟨b,off,none⟩) es.length cap)
 | accC {o b s m cap:Nat} {es:List D} {c:Array Value} {T:TypeId} (hι:ι o=some (b,s)) (hmk:mk o=some m) (hm:es.length<=m) (hL:es.length<=LIM) (hl:es.length<=cap)
     (hsz:∀e∈es,e.size=s) (hb:w.heap[b]? = some (.cells c T (0,0))) (hc:cap * s<=c.size)
     (h:∀(i:Nat) (e:D),es[i]? = some e->Rd w R (.el e b (i * s))):VA w R ι mk (.acc o es) (.slice (some ⟨b,0,none⟩) es.length cap)
 | peR {o b off:Nat} {x:D} (hR:R b) (h:Rd w R (.el x b off)):VA w R ι mk (.pe o x) (.pointer (some ⟨b,off,none⟩))
 | peC {o b s m off:Nat} {x:D} {c:Array Value} {T:TypeId} (hι:ι o=some (b,s)) (hmk:mk o=some m) (hb:w.heap[b]? = some (.cells c T (0,0))) (hoff:off+x.size<=m * s)
     (h:Rd w R (.el x b off)):VA w R ι mk (.pe o x) (.pointer (some ⟨b,off,none⟩))
 | acc0 {o:Nat} {a:Option Addr}:VA w R ι mk (.acc o []) (.slice a 0 0)
 | xsl {es:List D} {a:Option Addr} {n:Nat} (h:Rd w R (.v (.sl es) (.slice a n n))):VA w R ι mk (.xsl es) (.slice a n n)
 | agg {cs:List AV} {vs:List Value} (hl:vs.length=cs.length) (hc:∀c∈cs,c.cell=true)
     (h:∀(i:Nat) (c:AV) (u:Value),cs[i]? = some c->vs[i]? = some u->VA w R ι mk c u):VA w R ι mk (.agg cs) (.agg vs.toArray)
 | tup {cs:List AV} {vs:List Value} (hl:vs.length=cs.length)
     (h:∀(i:Nat) (c:AV) (u:Value),cs[i]? = some c->vs[i]? = some u->VA w R ι mk c u):VA w R ι mk (.tup cs) (.tuple vs.toArray)
 | fn {f:FuncId} {cs:List AV} {vs:List Value} (hl:vs.length=cs.length)
     (h:∀(i:Nat) (c:AV) (u:Value),cs[i]? = some c->vs[i]? = some u->VA w R ι mk c u):VA w R ι mk (.fn f cs) (.func (.func f) #[] vs.toArray)
 | nl1 {cap:Nat}:VA w R ι mk (.nl true) (.slice none 0 cap)
 | nl2 {a:Addr} {cap:Nat}:VA w R ι mk (.nl false) (.slice (some a) 0 cap)
 | mpr {o b s:Nat} (h:ι o=some (b,s)) (hmk:mk o=none):VA w R ι mk (.mpr o) (.map (some b))
 | undef {u:Value}:VA w R ι mk .undef u
def Blk(w w':World)(b k:Nat):Prop:=
 ∀(c:Array Value) (T:TypeId),w.heap[b]? = some (.cells c T (0,0))->∃c',w'.heap[b]? = some (.cells c' T (0,0))/\c'.size=c.size/\∀j,j<k->c'[j]? = c[j]?
theorem Blk.of_eq{w w':World}{b k:Nat}(h:w'.heap[b]? = w.heap[b]?):Blk w w' b k:=fun c T hc=>⟨c,by rw[h,hc],rfl,fun _ _=>rfl⟩
theorem Blk.trans{w w' w'':World}{b k:Nat}(h:Blk w w' b k)(h':Blk w' w'' b k):Blk w w'' b k:=fun c T hc=>
 let ⟨c',h1,h2,h3⟩:=h c T hc
 let ⟨c'',h4,h5,h6⟩:=h' c' T h1
 ⟨c'',h4,h5.trans h2,fun j hj=>(h6 j hj).trans (h3 j hj)⟩
theorem Blk.mono{w w':World}{b k k':Nat}(h:Blk w w' b k)(hk:k'<=k):Blk w w' b k':=
 fun c T hc=>let ⟨c',h1,h2,h3⟩:=h c T hc;⟨c',h1,h2,fun j hj=>h3 j (by omega)⟩
theorem zcq{w:World}{b j:Nat}{c:Array Value}{T:TypeId}{fz:Nat×Nat}(h:w.heap[b]? = some (.cells c T fz)):w.cell? ⟨b,j,none⟩=c[j]? := by
 simp [World.cell?,h]
structure Step(w w':World)(ι ι':Inj)(mk mk':Nat->Option Nat)(o:Nat):Prop where
 inj:∀b s,ι o=some (b,s)->ι' o=some (b,s)
 blk:∀b s,ι o=some (b,s)->Blk w w' b ((mk o).getD 0 * s)
 up:∀m,mk o=some m->∃m',mk' o=some m'/\m<=m'
 down:∀m',mk' o=some m'->∃m,mk o=some m/\m<=m'
theorem Step.none{w w':World}{ι ι':Inj}{mk mk':Nat->Option Nat}{o:Nat}(h:Step w w' ι ι' mk mk' o)(hm:mk o=none):mk' o=none:=by
 cases hh:mk' o with
 | none=>rfl
 | some m'=>obtain⟨m,h1,_⟩:=h.down m' hh;rw[hm] at h1;cases h1
theorem Step.same{w w':World}{ι:Inj}{mk:Nat->Option Nat}{o:Nat}(h:∀b s,ι o=some (b,s)->w'.heap[b]? = w.heap[b]?):Step w w' ι ι mk mk o:=
 ⟨fun _ _ h=>h,fun b s hh=>Blk.of_eq (h b s hh),fun m h=>⟨m,h,zabR _⟩,fun m h=>⟨m,h,zabR _⟩⟩
theorem Rd.el_blk {w w':World} {R R':Nat->Prop} {x:D} {b off s k:Nat} (h:Rd w R (.el x b off)) (hR:∀b,R b->R' b) (hw:zbK R w w') (hb:Blk w w' b k)
    {c:Array Value} {T:TypeId} (hc:w.heap[b]? = some (.cells c T (0,0))) (hs:x.size=s) (hk:off+s<=k):Rd w' R' (.el x b off):=by
 refine h.mono hR hw fun j hj=> ?_;obtain⟨c',h1,_,h3⟩:=hb c T hc;rw[zcq h1,zcq hc,h3 _ (by omega)]
theorem VA.mono {w w':World} {R R':Nat->Prop} {ι ι':Inj} {mk mk':Nat->Option Nat} {x:AV} {u:Value} (h:VA w R ι mk x u) (hR:∀b,R b->R' b) (hw:zbK R w w')
    (hs:∀o,x.refs o=true->Step w w' ι ι' mk mk' o):VA w' R' ι' mk' x u:=by
 induction h with
 | d h=>exact .d (h.mono_v hR hw)
 | @ref o _ _ _ _ h hmk=>exact .ref ((hs o (by simp [AV.refs])).inj _ _ h) ((hs o (by simp [AV.refs])).none hmk)
 | @osl o _ _ _ _ _ _ _ h hmk hb hl hc hL=>
  have st:=hs o (by simp [AV.refs]);obtain⟨c',h1,h2,_⟩:=st.blk _ _ h _ _ hb;exact .osl (st.inj _ _ h) (st.none hmk) h1 hl (by omega) hL
 | osl0=>exact .osl0
 | @accR o _ _ _ _ _ hr hs' hL hl hsz h hm=>
  have st:=hs o (by simp [AV.refs]);refine .accR (hR _ hr) hs' hL hl hsz (fun i e hi=>(h i e hi).mono hR hw fun j _=>World.cell?_of_block (hw _ hr)) fun m' hm'=> ?_;obtain⟨m,h1,h2⟩:=st.down _ hm';have:=hm m h1;omega
 | @accC o b s m cap es c T hι hmk hm hL hl hsz hb hc h=>
  have st:=hs o (by simp [AV.refs]);obtain⟨m',h1,h2⟩:=st.up _ hmk;have hbk:=st.blk _ _ hι;rw[hmk] at hbk;obtain⟨c',h3,h4,_⟩:=hbk _ _ hb;refine .accC (st.inj _ _ hι) h1 (zaca hm h2) hL hl hsz h3 (by omega) fun i e hi=> ?_;have hlt:i<es.length:=(zabB.1 hi).1;refine (h i e hi).el_blk hR hw hbk hb (hsz e (zabK hi)) ?_;simp only[zacS]
  calc i * s+s=(i+1) * s:=by rw[zacq]
   _<=m * s:=zab2 _ (by omega)
 | acc0=>exact .acc0
 | peR hr h=>exact .peR (hR _ hr) (h.mono hR hw fun j _=>World.cell?_of_block (hw _ hr))
 | @peC o b s m off x c T hι hmk hb hoff h=>
  have st:=hs o (by simp [AV.refs]);obtain⟨m',h1,h2⟩:=st.up _ hmk;have hbk:=st.blk _ _ hι;rw[hmk] at hbk;obtain⟨c',h3,h4,_⟩:=hbk _ _ hb;exact .peC (st.inj _ _ hι) h1 h3 (zaca hoff (zab2 _ h2)) (h.el_blk hR hw hbk hb rfl hoff)
 | xsl h=>exact .xsl (h.mono_v hR hw)
 | agg hl hc _ ih=>exact .agg hl hc fun i c u h1 h2=>ih i c u h1 h2 fun o ho=>hs o (AV.refsL_mem (zabK h1) ho)
 | tup hl _ ih=>exact .tup hl fun i c u h1 h2=>ih i c u h1 h2 fun o ho=>hs o (AV.refsL_mem (zabK h1) ho)
 | fn hl _ ih=>exact .fn hl fun i c u h1 h2=>ih i c u h1 h2 fun o ho=>hs o (AV.refsL_mem (zabK h1) ho)
 | nl1=>exact .nl1
 | nl2=>exact .nl2
 | @mpr o _ _ h hmk=>exact .mpr ((hs o (by simp [AV.refs])).inj _ _ h) ((hs o (by simp [AV.refs])).none hmk)
 | undef=>exact .undef
inductive OB(w:World)(R:Nat->Prop)(ι:Inj)(mk:Nat->Option Nat)(o:Nat):Obj->Prop
 | row {es:List AV} {b s:Nat} {c:Array Value} {T:TypeId} (hι:ι o=some (b,s)) (hR:¬R b) (hb:w.heap[b]? = some (.cells c T (0,0))) (hs:0<s)
     (hsz:∀e∈es,e.size=s) (hc:es.length * s<=c.size)
     (h:∀(i:Nat) (e:AV),es[i]? = some e->∀(j:Nat) (x:AV),e.cells[j]? = some x->x.cell=true/\∃q,c[i * s+j]? = some q/\VA w R ι mk x q):OB w R ι mk o (.row es)
 | acc {n b s:Nat} {c:Array Value} {T:TypeId} (hpos:0<n) (hι:ι o=some (b,s)) (hR:¬R b) (hb:w.heap[b]? = some (.cells c T (0,0))) (hs:0<s) (hc:n * s<=c.size):OB w R ι mk o (.acc n)
 | accN {n:Nat} (hι:ι o=none):OB w R ι mk o (.acc n)
 /-- An object that is data from now on. -/
 | frz {m:Option Nat} (h:∀b s,ι o=some (b,s)->R b/\0<s):OB w R ι mk o (.frz m)
 | mp {es:List (Int×D)} {b s ck:Nat} {l:Array MapEntry} (hι:ι o=some (b,s)) (hR:¬R b) (hb:w.heap[b]? = some (.map l ck)) (hs:0<s)
     (hl:l.size=es.length) (h:∀(i:Nat) (k:Int) (x:D),es[i]? = some (k,x)->∃e,l[i]? = some e/\e.key= .int .i64 k/\Rd w R (.v x e.val)):OB w R ι mk o (.mp es)
structure Ctx where
 w0:World
 keep:Nat->Prop
 R0:Nat->Prop
 n:Nat
 gh:List Value
 le:n<=1000000
def zeu(C:Ctx)(a:Act)(t:Nat):Option Value:=if t<1000000 then a.tmps[t]? else C.gh[t - 1000000]?
structure Rel(C:Ctx)(S:St)(a:Act)(w:World)(ι:Inj)(R:Nat->Prop):Prop where
 defers:a.defers=[]
 size:a.tmps.size=C.n
 os:w.os=C.w0.os
 tape:w.tape=C.w0.tape
 output:w.output=C.w0.output
 grow:C.w0.heap.size<=w.heap.size
 len:∀b,b<C.w0.heap.size->Blk C.w0 w b 0
 keep:∀b,C.keep b->w.heap[b]? = C.w0.heap[b]?
 keepLt:∀b,C.keep b->b<C.w0.heap.size
 rlt:∀b,R b->b<w.heap.size
 rok:∀b,R b->C.R0 b\/¬C.keep b
 r0:∀b,C.R0 b->R b
 own:∀o b s,ι o=some (b,s)->¬C.keep b/\b<w.heap.size
 inj:∀o o' b s s',ι o=some (b,s)->ι o'=some (b,s')->o=o'
 env:∀t x,(t,x)∈S.env->∃u,zeu C a t=some u/\VA w R ι (mark S.heap) x u
 heap:∀o ob,(o,ob)∈S.heap->OB w R ι (mark S.heap) o ob
theorem AV.cells_refs{o:Nat}{e x:AV}{j:Nat}(h:e.cells[j]? = some x)(hx:x.refs o=true):e.refs o=true:=by
 cases e with
 | agg cs=>exact AV.refsL_mem (zabK h) hx
 | d y=>
  simp only[AV.cells] at h;rw[zabI] at h
  cases hh:y.cells[j]? with
  | none=>simp [hh] at h
  | some z=>simp [hh] at h;subst h;simp [AV.refs] at hx
 | _=>
  simp only[AV.cells] at h
  match j,h with
  | 0,h=>simp at h;subst h;exact hx
  | n+1,h=>simp at h
theorem OB.mono {w w':World} {R R':Nat->Prop} {ι ι':Inj} {mk mk':Nat->Option Nat} {o:Nat} {ob:Obj} (h:OB w R ι mk o ob) (hR:∀b,R b->R' b) (hw:zbK R w w')
    (hb:∀b s,ι o=some (b,s)->ι' o=some (b,s)/\w'.heap[b]? = w.heap[b]? /\ (R' b->R b)) (h0:ι o=none->ι' o=none)
    (hs:∀p,ob.refs p=true->Step w w' ι ι' mk mk' p):OB w' R' ι' mk' o ob:=by
 cases h with
 | row hι hr hb' hs' hsz hc h=>
  obtain⟨h1,h2,h3⟩:=hb _ _ hι;refine .row h1 (fun k=>hr (h3 k)) (by rw[h2];exact hb') hs' hsz hc fun i e hi j x hj=> ?_;obtain⟨k1,q,k2,k3⟩:=h i e hi j x hj;exact⟨k1,q,k2,k3.mono hR hw fun p hp=>hs p (AV.refsL_mem (zabK hi) (AV.cells_refs hj hp))⟩
 | acc hpos hι hr hb' hs' hc=>
  obtain⟨h1,h2,h3⟩:=hb _ _ hι;exact .acc hpos h1 (fun k=>hr (h3 k)) (by rw[h2];exact hb') hs' hc
 | accN hι=>exact .accN (h0 hι)
 | frz h=>
  refine .frz fun b s hb'=> ?_
  cases hι:ι o with
  | none=>rw[h0 hι] at hb';cases hb'
  | some p=>obtain⟨b0,s0⟩:=p;rw[(hb _ _ hι).1] at hb';cases hb';exact⟨hR _ (h _ _ hι).1,(h _ _ hι).2⟩
 | mp hι hr hb' hs' hl h=>
  obtain⟨h1,h2,h3⟩:=hb _ _ hι;refine .mp h1 (fun k=>hr (h3 k)) (by rw[h2];exact hb') hs' hl fun i k x hi=> ?_;obtain⟨e,k1,k2,k3⟩:=h i k x hi;exact⟨e,k1,k2,k3.mono_v hR hw⟩
inductive Opd where
 | t (n:Nat)
 | c (x:AV)
def Opd.ev(E:Env):Opd->AV
 | .t n=>(look n E).getD .undef
 | .c x=>x
inductive AOp where
 | mv (x:Opd)
 | pick (c a b:Opd)
 | alloc (z:AV)
 | box (x:Opd)
 | build (z:List AV) (ps:List (Nat×Nat×Opd))
 | bsl (len n:Nat) (z:AV) (ps:List (Nat×Opd))
 | ld (ag:Bool) (n:Nat) (p:Opd)
 | st (n:Nat) (p x:Opd)
 | nilc (x:Opd)
 | bin (op:BinOp) (x y:Opd)
 | eqb (ng:Bool) (x y:Opd)
 | eqs (ng:Bool) (n:Nat) (ls:List (Nat×Nat)) (x y:Opd)
 | nacc
 | un (op:UnOp) (x:Opd)
 | cvi (k:IntKind) (x:Opd)
 | s2b (x:Opd)
 | b2s (x:Opd)
 | mkfn (f:FuncId) (cs:List Opd)
 | fad (ag:Bool) (off n:Nat) (x:Opd)
 | fld (ag:Bool) (off n:Nat) (x:Opd)
 | iad (n:Nat) (x i:Opd)
 | iada (ag:Bool) (len n:Nat) (x i:Opd)
 | idx (x i:Opd)
 | idxa (ag:Bool) (len n:Nat) (x i:Opd)
 | slc (n:Nat) (x:Opd) (lo hi mx:Option Opd)
 | sls (x:Opd) (lo hi:Option Opd)
 | ext (x:Opd) (i:Nat)
 | len (x:Opd)
 | lens (x:Opd)
 | app (n:Nat) (x y:Opd)
 | apps (x y:Opd)
 | clr (n:Nat) (x:Opd)
 | mm (mx:Bool) (xs:List Opd)
 | mks (n:Nat) (z:AV) (l c:Opd)
 | nileq (ng:Bool) (x:Opd)
 | call (f:FuncId) (ms:List Bool) (xs:List Opd)
 | callv (f:Opd) (ms:List Bool) (xs:List Opd)
 | atl (p:Opd)
 | ats (p x:Opd)
 | atc (p x y:Opd)
 | mkm
 | lkp (ok:Bool) (z:D) (x k:Opd)
 | mup (x k v:Opd)
structure zK where
 dst:Option Nat
 op:AOp
 guard:Option (Nat×Bool)
def zbq:List AV->Option (List D)
 | []=>some []
 | .d x::l=>(zbq l).map (x:: ·)
 | _=>none
def AV.mkAgg(cs:List AV):AV:=match zbq cs with|some ds=> .d (.agg ds)|none=> .agg cs
def AV.mkTup(cs:List AV):AV:=match zbq cs with|some ds=> .d (.tup ds)|none=> .tup cs
def AV.mkFn(f:FuncId)(cs:List AV):AV:=match zbq cs with|some ds=> .d (.fn f ds)|none=> .fn f cs
def zhu:Value->Option AV
 | .int k n=>if k.min<=n/\n<=k.max then some (.d (.int k n)) else none
 | .bool b=>some (.d (.bool b))
 | .string s=>if s.data.toList.length<=LIM then some (.d (.str s.data.toList)) else none
 | .slice none 0 0=>some (.xsl [])
 | v=>if zZ8 v=true then some (.d .nil) else none
def zfK:Value->Option AV
 | .agg cs=>(cs.toList.mapM zhu).map AV.mkAgg
 | v=>zhu v
def opd:Operand->Option Opd
 | .tmp t=>if t<1000000 then some (.t t) else none
 | .const v=>if zZ8 v then some (.c .undef) else (zfK v).map .c
 | .global _=>none
 | .func f=>some (.c (.d (.fn f [])))
def zbi(P:Program)(t:TypeId):Option Bool:=
 match P.underlying t with
 | some (.struct _)=>some true
 | some (.array _ _)=>some true
 | some _=>some false
 | none=>none
def zaQ(P:Program)(t:TypeId):Option Nat:=(P.info? t).map (·.size)
def zco(P:Program)(t:TypeId):Option AV:=((P.info? t).bind (·.zero)).bind zfK
def zeJ(P:Program)(f:FuncId):Bool:=match P.funcs[f]? with|some fn=>fn.body.isSome&& !(fn.name== "runtime.NumGoroutine")|none=>false
def ziW(P:Program)(n:Nat)(g:TypeId->Nat->Option (List (Nat×Nat)))(off:Nat):List Field->Option (List (Nat×Nat))
 | []=>some []
 | f::fs=>match zaQ P f.type with
  | some m=>if f.name≠ "_" /\ f.offset+m<=n/\m≠0 then (g f.type (off+f.offset)).bind fun l1=>(ziW P n g off fs).map (l1++ ·) else none
  | none=>none
def zkx(m:Nat)(g:Nat->Option (List (Nat×Nat)))(off:Nat):Nat->Option (List (Nat×Nat))
 | 0=>some []
 | k+1=>(g off).bind fun l1=>(zkx m g (off+m) k).map (l1++ ·)
def zef(P:Program):Nat->TypeId->Nat->Option (List (Nat×Nat))
 | 0,_,_=>none
 | d+1,t,off=>
  match P.underlying t with
  | some .bool=>some [(off,1)]
  | some (.int _)=>some [(off,0)]
  | some .string=>some [(off,2)]
  | some (.struct fs)=>match zaQ P t with|some n=>if P.stoodInHeld t then none else ziW P n (zef P d) off fs.toList|none=>none
  | some (.array len e)=>match zaQ P t,zaQ P e with|some n,some m=>if m=0\/len * m≠n then none else zkx m (zef P d e) off len|_,_=>none
  | _=>none
def zAv:Operand->Bool
 | .const (.slice none _ _)=>true
 | _=>false
def z9(P:Program)(o:Op):Option AOp:=
 match o with
 | .move x| .assign x=>(opd x).map .mv
 | .pick c a b=>do pure (.pick (<- opd c) (<- opd a) (<- opd b))
 | .alloc t=>do
  let z <- zco P t
  if z.size=0 then none else pure (.alloc z)
 | .box _ x=>(opd x).map .box
 | .load t p=>do
  let n <- zaQ P t
  if n=0 then none else pure (.ld (<- zbi P t) n (<- opd p))
 | .store t p x=>do
  let n <- zaQ P t
  if n=0 then none else pure (.st n (<- opd p) (<- opd x))
 | .nilCheck x=>(opd x).map .nilc
 | .binOp op t x y _=>
  match P.underlying t with
  | some (.int _)|some .string=>do pure (.bin op (<- opd x) (<- opd y))
  | some (.struct _)|some (.array _ _)=>
   match zef P 9 t 0,zaQ P t with
   | some ls,some n=>if P.eqGuardType P.depth t=true\/n=0 then none else
    match op with
    | .eql=>do pure (.eqs false n ls (<- opd x) (<- opd y))
    | .neq=>do pure (.eqs true n ls (<- opd x) (<- opd y))
    | _=>none
   | _,_=>none
  | some (.slice _)=>
   if zAv y then
    match op with
    | .eql=>(opd x).map (.nileq false)
    | .neq=>(opd x).map (.nileq true)
    | _=>none
   else none
  | _=>none
 | .unOp op _ x=>(opd x).map (.un op)
 | .convert s t x=>
  match P.underlying s,P.underlying t with
  | some (.int _),some (.int k)=>(opd x).map (.cvi k)
  | some (.slice e),some .string=>if P.underlying e matches some (.int .u8) then (opd x).map .b2s else none
  | _,_=>none
 | .makeFunc (.func f) first cs=>if first.size=0 then do pure (.mkfn f (<- cs.toList.mapM opd)) else none
 | .fieldAddr t x f=>
  match P.underlying t with
  | some (.struct fs)=>do
   let fd <- fs[f]?
   let n <- zaQ P fd.type
   if n=0 then none else pure (.fad (<- zbi P fd.type) fd.offset n (<- opd x))
  | _=>none
 | .field t x f=>
  match P.underlying t with
  | some (.struct fs)=>do
   let fd <- fs[f]?
   let n <- zaQ P fd.type
   if n=0 then none else pure (.fld (<- zbi P fd.type) fd.offset n (<- opd x))
  | _=>none
 | .indexAddr t x i=>
  match P.underlying t with
  | some (.slice e)=>do
   let n <- zaQ P e
   if n=0 then none else pure (.iad n (<- opd x) (<- opd i))
  | _=>none
 | .index t x i=>
  match P.underlying t with
  | some .string=>do pure (.idx (<- opd x) (<- opd i))
  | some (.array len e)=>do
   let n <- zaQ P e
   if n=0 then none else pure (.idxa (<- zbi P e) len n (<- opd x) (<- opd i))
  | _=>none
 | .slice t x lo hi mx=>
  match P.underlying t with
  | some (.slice e)=>do
   let n <- zaQ P e
   if n=0 then none else pure (.slc n (<- opd x) (<- lo.mapM opd) (<- hi.mapM opd) (<- mx.mapM opd))
  | _=>none
 | .extract x i=>do pure (.ext (<- opd x) i)
 | .build t ps=>
  match P.underlying t with
  | some (.struct fs)=>do
   let z <- zco P t
   let _ <- fs.toList.mapM fun f=>zaQ P f.type
   let qs <- ps.toList.mapM fun p=>do
    let fd <- fs[p.1]?
    let n <- zaQ P fd.type
    pure (fd.offset,n, <- opd p.2)
   pure (.build z.cells qs)
  | some (.array _ e)=>do
   let z <- zco P t
   let n <- zaQ P e
   let qs <- ps.toList.mapM fun p=>do pure (p.1 * n,n, <- opd p.2)
   pure (.build z.cells qs)
  | _=>none
 | .buildSlice t len ps=>
  match P.underlying t with
  | some (.slice e)=>do
   let n <- zaQ P e
   let z <- zco P e
   let qs <- ps.toList.mapM fun p=>do pure (p.1, <- opd p.2)
   if n=0\/16777216<len * n then none else pure (.bsl len n z qs)
  | _=>none
 | .makeSlice t l c=>
  match P.underlying t with
  | some (.slice e)=>do
   let n <- zaQ P e
   let i <- P.info? e
   let z <- zco P e
   if n=0\/32768<i.bytes then none else pure (.mks n z (<- opd l) (<- opd c))
  | _=>none
 | .call c=>
  match c.callee with
  | .value (.func f)=>if zeJ P f then do pure (.call f [] (<- c.args.toList.mapM opd)) else none
  | .value (.tmp t)=>if t<1000000 then do pure (.callv (.t t) [] (<- c.args.toList.mapM opd)) else none
  | .builtin .len=>
   match (c.argTypes[0]?).bind P.underlying,c.args.toList with
   | some .string,[x]=>(opd x).map .lens
   | some (.slice _),[x]=>(opd x).map .len
   | _,_=>none
  | .builtin .append=>
   match (c.argTypes[0]?).bind P.underlying,(c.argTypes[1]?).bind P.underlying,c.args.toList with
   | some (.slice e),some (.slice _),[x,y]=>do
    let n <- zaQ P e
    let i <- P.info? e
    let z <- zco P e
    if n=0\/z.size≠n\/32768<i.bytes then none else pure (.app n (<- opd x) (<- opd y))
   | _,_,_=>none
  | .builtin .min=>do pure (.mm false (<- c.args.toList.mapM opd))
  | .builtin .max=>do pure (.mm true (<- c.args.toList.mapM opd))
  | _=>none
 | .makeMap t r=>
  match P.underlying t,r with
  | some (.map k _),none=>if P.underlying k matches some (.int .i64) then some .mkm else none
  | _,_=>none
 | .lookup t x i ok=>
  match P.underlying t with
  | some (.map k e)=>match P.underlying k,zco P e with
   | some (.int .i64),some (.d z)=>do pure (.lkp ok z (<- opd x) (<- opd i))
   | _,_=>none
  | _=>none
 | .mapUpdate t x i v=>
  match P.underlying t with
  | some (.map k _)=>if P.underlying k matches some (.int .i64) then do pure (.mup (<- opd x) (<- opd i) (<- opd v)) else none
  | _=>none
 | _=>none
def zcI(op:BinOp)(k:IntKind)(a b:Int):Option D:=
 match op with
 | .add=>some (.int k (k.wrap (a+b)))
 | .sub=>some (.int k (k.wrap (a - b)))
 | .mul=>some (.int k (k.wrap (a * b)))
 | .quo=>if b=0 then none else some (.int k (k.wrap (a.tdiv b)))
 | .rem=>if b=0 then none else some (.int k (a.tmod b))
 | .and=>some (.int k (k.wrap (BitVec.ofInt k.bits a &&& BitVec.ofInt k.bits b).toNat))
 | .or=>some (.int k (k.wrap (BitVec.ofInt k.bits a ||| BitVec.ofInt k.bits b).toNat))
 | .xor=>some (.int k (k.wrap (BitVec.ofInt k.bits a ^^^ BitVec.ofInt k.bits b).toNat))
 | .andNot=>some (.int k (k.wrap (BitVec.ofInt k.bits a &&& ~~~BitVec.ofInt k.bits b).toNat))
 | .eql=>some (.bool (decide (a=b)))
 | .neq=>some (.bool (!decide (a=b)))
 | .lss=>some (.bool (decide (a<b)))
 | .leq=>some (.bool (decide (a<=b)))
 | .gtr=>some (.bool (decide (b<a)))
 | .geq=>some (.bool (decide (b<=a)))
 | _=>none
def zk9(op:BinOp)(k:IntKind)(a b:Int):Option D:=
 if b<0 then none else
 match op with
 | .shl=>some (.int k (k.wrap (a * 2 ^ (min b.toNat k.bits))))
 | .shr=>some (.int k (a.fdiv (2 ^ (min b.toNat k.bits))))
 | _=>none
def znG(op:BinOp)(a b:List UInt8):Option D:=
 match op with
 | .add=>if (a++b).length<=LIM then some (.str (a++b)) else none
 | .eql=>some (.bool (decide (a=b)))
 | .neq=>some (.bool (!decide (a=b)))
 | _=>none
def zgI(op:BinOp):D->D->Option D
 | .int k a,.int k' b=>
  match op with
  | .shl=>zk9 .shl k a b
  | .shr=>zk9 .shr k a b
  | op=>if k=k' then zcI op k a b else none
 | .str a,.str b=>znG op a b
 | _,_=>none
def D.asAgg:D->D
 | .agg cs=> .agg cs
 | x=> .agg [x]
def zcc(ag:Bool)(off n:Nat)(x:D):Option D:=
 if ag then
  if off=0/\n=x.size then some x.asAgg
  else if off+n<=x.size then some (.agg ((x.cells.drop off).take n)) else none
 else if n=1 then x.cells[off]? else none
def zep(ag:Bool)(off n:Nat)(x:AV):Option AV:=
 match x with
 | .d x=>(zcc ag off n x).map .d
 | x=>
  if ag then
   if off+n<=x.size then some (AV.mkAgg ((x.cells.drop off).take n)) else none
  else if n=1 then x.cells[off]? else none
def zfv{α:Type}(l:List α)(off:Nat)(m:List α):List α:=l.take off++m++l.drop (off+m.length)
def zbR:AV->Bool
 | .d (.tup _)=>true
 | .tup _=>true
 | .undef=>true
 | _=>false
def zcM(x:AV)(off:Nat)(v:AV):Option AV:=
 if off=0/\v.size=x.size then some v
 else if off+v.size<=x.size then some (AV.mkAgg (zfv x.cells off v.cells)) else none
def slD:AV->Option (List D)
 | .d (.sl es)=>some es
 | .xsl es=>some es
 | .acc _ es=>some es
 | _=>none
def toD(H:zd):AV->Option D
 | .d x=>some x
 | .xsl es=>some (.sl es)
 | .acc _ es=>some (.sl es)
 | .osl o off len=>
  match look o H with
  | some (.row es)=>(zbq ((es.drop off).take len)).bind fun ds=>if ds.length=len then some (.sl ds) else none
  | _=>none
 | .agg cs=>(toDs H cs).map .agg
 | .tup cs=>(toDs H cs).map .tup
 | .fn f cs=>(toDs H cs).map (.fn f)
 | .ref o i 0=>
  match look o H with
  | some (.row es)=>(es[i]?).bind fun e=>match e with| .d x=>some (.pd x)|_=>none
  | _=>none
 | _=>none
where toDs (H:zd):List AV->Option (List D)
 | []=>some []
 | x::xs=>match toD H x,toDs H xs with|some y,some ys=>some (y::ys)|_,_=>none
mutual
def AV.objs:AV->List Nat
 | .ref o _ _=>[o]
 | .osl o _ _=>[o]
 | .acc o _=>[o]
 | .pe o _=>[o]
 | .mpr o=>[o]
 | .agg cs=>AV.objsL cs
 | .tup cs=>AV.objsL cs
 | .fn _ cs=>AV.objsL cs
 | _=>[]
def AV.objsL:List AV->List Nat
 | []=>[]
 | x::xs=>AV.objs x++AV.objsL xs
end
def zbA(z:List AV):List (Nat×Nat×AV)->Option (List AV)
 | []=>some z
 | (off,n,v)::rest=>if v.size=n/\off+n<=z.length/\zbR v=false then zbA (zfv z off v.cells) rest else none
def zjo:AV->AV
 | .xsl es=> .d (.sl es)
 | .d x=> .d x
 | .ref o i off=> .ref o i off
 | .osl o off len=> .osl o off len
 | .acc o es=> .acc o es
 | .pe o x=> .pe o x
 | .agg cs=> .agg cs
 | .tup vs=> .tup vs
 | .fn f cs=> .fn f cs
 | .nl b=> .nl b
 | .mpr o=> .mpr o
 | .undef=> .undef
def znM:List AV->List AV
 | []=>[]
 | x::xs=>zjo x::znM xs
theorem znN:∀xs:List AV,znM xs=xs.map zjo
 | []=>rfl
 | x::xs=>by simp [znM,znN xs]
theorem zDw:∀ {cs:List AV} {ds:List D},zbq cs=some ds->ds.length=cs.length
 | [],ds,h=>by simp only[zbq,Option.some.injEq] at h;subst h;rfl
 | .d x::l,ds,h=>by
  simp only[zbq,zabr] at h;obtain⟨a,h1,rfl⟩:=h;simp [zDw h1]
 | .ref .. :: _,_,h| .osl .. :: _,_,h| .acc .. :: _,_,h| .pe .. :: _,_,h| .xsl _::_,_,h| .agg _::_,_,h| .tup _::_,_,h| .fn .. :: _,_,h| .nl _::_,_,h| .mpr _::_,_,h| .undef::_,_,h=>by simp [zbq] at h
theorem zZM(cs:List AV):(AV.mkAgg cs).size=cs.length:=by
 unfold AV.mkAgg
 split
 ·rename_i ds h;simp [AV.size,D.size,D.cells,zDw h]
 ·rfl
def unX:AV->AV
 | .xsl es=> .d (.sl es)
 | .d x=> .d x
 | .ref o i off=> .ref o i off
 | .osl o off len=> .osl o off len
 | .acc o es=> .acc o es
 | .pe o x=> .pe o x
 | .agg cs=>AV.mkAgg (znM cs)
 | .tup vs=> .tup vs
 | .fn f cs=> .fn f cs
 | .nl b=> .nl b
 | .mpr o=> .mpr o
 | .undef=> .undef
theorem zQ9(v:AV):(unX v).size=v.size:=by
 cases v with
 | agg cs=>simp only[unX,zZM,znN,zabE];rfl
 | _=>rfl
theorem zaaH{v:AV}(h:zbR v=false):zbR (unX v)=false:=by
 cases v with
 | agg cs=>simp only[unX,AV.mkAgg];split<;>rfl
 | _=>simp_all [unX,zbR]
def zd8(z:List AV):List (Nat×AV)->Option (List AV)
 | []=>some z
 | (i,v)::rest=>if i<z.length/\zbR v=false then zd8 (z.set i (unX v)) rest else none
def zbQ:AV->Option Int
 | .d (.int _ n)=>some n
 | _=>none
def zcl(x:Option AV)(dflt y:Nat):Option Nat:=
 match x with
 | none=>some dflt
 | some v=>(zbQ v).bind fun n=>if 0<=n/\n<=y then some n.toNat else none
def zge:List D->Option (List UInt8)
 | []=>some []
 | .int .u8 n::l=>(zge l).map (UInt8.ofNat n.toNat:: ·)
 | _=>none
def mmD(mx:Bool):AV->List AV->Option AV
 | x,[]=>some x
 | .d (.int k a),.d (.int k' b)::r=>if k=k' then mmD mx (.d (.int k (if mx then (if a<b then b else a) else (if b<a then b else a)))) r else none
 | _,_=>none
def ldA(H:zd)(ag:Bool)(n:Nat):AV->Option AV
 | .d (.pd x)=>(zcc ag 0 n x).map .d
 | .pe _ x=>(zcc ag 0 n x).map .d
 | .ref o i off=>
  match look o H with
  | some (.row es)=>(es[i]?).bind (zep ag off n)
  | _=>none
 | _=>none
def zd6(ag:Bool)(off n:Nat):AV->Option AV
 | .ref o i f=>some (.ref o i (f+off))
 | .d (.pd y)=>(zcc ag off n y).map fun z=> .d (.pd z)
 | .pe o y=>(zcc ag off n y).map fun z=> .pe o z
 | _=>none
def zcH(H:zd)(n:Nat)(i:Int):AV->Option AV
 | .osl o off len=>if i<len then
     match look o H with
     | some (.row es)=>(es[off+i.toNat]?).bind fun e=>if e.size=n then some (.ref o (off+i.toNat) 0) else none
     | _=>none
     else none
 | .acc o es=>(es[i.toNat]?).bind fun e=>if e.size=n then some (.pe o e) else none
 | .d (.sl es)=>(es[i.toNat]?).bind fun e=>if e.size=n then some (.d (.pd e)) else none
 | .xsl es=>(es[i.toNat]?).bind fun e=>if e.size=n then some (.d (.pd e)) else none
 | _=>none
def zas(n:Nat)(es:List D):Bool:=es.all fun e=>e.size==n
def zcj(H:zd)(n:Nat)(lo hi mx:Option AV):AV->Option AV
 | .d (.sl es)=>
  if zas n es then
   (zcl hi es.length es.length).bind fun h=>(zcl lo 0 h).bind fun l=>
    match mx with
    | none=>some (.d (.sl ((es.take h).drop l)))
    | some m=>if zbQ m=some (h:Int)/\hi.isSome then some (.xsl ((es.take h).drop l)) else none
  else none
 | .xsl es=>
  if zas n es then
   (zcl hi es.length es.length).bind fun h=>(zcl lo 0 h).bind fun l=>
    match mx with
    | none=>some (if h=es.length then .xsl ((es.take h).drop l) else .d (.sl ((es.take h).drop l)))
    | some m=>if zbQ m=some (h:Int)/\hi.isSome then some (.xsl ((es.take h).drop l)) else none
  else none
 | .acc o es=>
  if zas n es then
   (zcl hi es.length es.length).bind fun h=>(zcl lo 0 h).bind fun l=>
    if l=0 then
     match mx with
     | none=>some (.acc o (es.take h))
     | some m=>if zbQ m=some (h:Int)/\hi.isSome then some (.acc o (es.take h)) else none
    else none
  else none
 | .osl o off len=>
  match mx with
  | none=>(zcl hi len len).bind fun h=>(zcl lo 0 h).bind fun l=>
   match look o H with
   | some (.row es)=>if l=0\/es.head?.map AV.size=some n then some (.osl o (off+l) (h - l)) else none
   | _=>none
  | some _=>none
 | _=>none
def zc9(H:zd):AV->Option (List D)
 | .osl o off len=>
  match look o H with
  | some (.row es)=>(zbq ((es.drop off).take len)).bind fun ds=>if ds.length=len then some ds else none
  | _=>none
 | .nl _=>some []
 | y=>slD y
def zcf(E:Env)(H:zd)(dst n:Nat)(ys:List D):AV->Option (AV×zd)
 | .xsl es=>if (ys.isEmpty&& !es.isEmpty)=true then (if zas n es=true then some (.xsl es,H) else none) else if zas n (es++ys)/\(es++ys).length<=LIM/\zaX dst E=false/\zaq dst H=false then some (.acc dst (es++ys),zP dst (.acc (es.length+ys.length)) H) else none
 | .acc o es=>match look o H with
  | some (.acc m)=>if es.length=m/\zas n (es++ys)/\(es++ys).length<=LIM then some (.acc o (es++ys),zP o (.acc (m+ys.length)) H) else none
  | _=>none
 | _=>none
def zvm:Nat->Option D->Option D->Option Bool
 | 0,some (.int k x),some (.int k' y)=>if k=k' then some (decide (x=y)) else none
 | 1,some (.bool x),some (.bool y)=>some (x==y)
 | 2,some (.str x),some (.str y)=>some (decide (x=y))
 | _,_,_=>none
def zgN(x y:List D):List (Nat×Nat)->Option Bool
 | []=>some true
 | l::ls=>(zvm l.2 x[l.1]? y[l.1]?).bind fun b=>(zgN x y ls).map (b&& ·)
def zrv(ag:Bool)(off n:Nat):AV->Option AV
 | .d (.agg cs)=>(zcc ag off n (.agg cs)).map .d
 | .agg cs=>zep ag off n (.agg cs)
 | _=>none
def zg8(k:Int):List (Int×D)->Option D
 | []=>none
 | (j,x)::l=>if j=k then some x else zg8 k l
def zh0(k:Int)(x:D):List (Int×D)->List (Int×D)
 | []=>[(k,x)]
 | (j,y)::l=>if j=k then (j,x)::l else (j,y)::zh0 k x l
def zky(H:zd)(ok:Bool)(z:D):AV->AV->Option AV
 | .mpr o,.d (.int .i64 n)=>match look o H with
  | some (.mp es)=>some (.d (if ok then .tup [(zg8 n es).getD z,.bool (zg8 n es).isSome] else (zg8 n es).getD z))
  | _=>none
 | _,_=>none
def zmT(H:zd):AV->AV->AV->Option (AV×zd)
 | .mpr o,.d (.int .i64 n),.d y=>match look o H with
  | some (.mp es)=>some (.undef,zP o (.mp (zh0 n y es)) H)
  | _=>none
 | _,_,_=>none
def zr(E:Env)(H:zd)(dst:Nat):AOp->Option (AV×zd)
 | .mv x=>some (x.ev E,H)
 | .pick c a b=>match c.ev E with| .d (.bool t)=>some (if t then a.ev E else b.ev E,H)|_=>none
 | .alloc z=>if zaX dst E=false/\zaq dst H=false then some (.ref dst 0 0,zP dst (.row [z]) H) else none
 | .box x=>if zaX dst E=false/\zaq dst H=false/\zbR (x.ev E)=false/\(x.ev E).size≠0 then some (.ref dst 0 0,zP dst (.row [x.ev E]) H) else none
 | .ld ag n p=>(ldA H ag n (p.ev E)).map fun v=>(v,H)
 | .st n p x=>match p.ev E with
  | .ref o i off=>if (x.ev E).size=n/\zbR (x.ev E)=false then
      match look o H with
      | some (.row es)=>(es[i]?).bind fun e=>(zcM e off (x.ev E)).map fun e'=>(.undef,zP o (.row (es.set i e')) H)
      | _=>none
      else none
  | _=>none
 | .nilc x=>match x.ev E with
  | .ref o i f=>some (.ref o i f,H)
  | .d (.pd y)=>some (.d (.pd y),H)
  | .d (.fn f cs)=>some (.d (.fn f cs),H)
  | .pe o y=>some (.pe o y,H)
  | .fn f cs=>some (.fn f cs,H)
  | _=>none
 | .bin op x y=>match x.ev E,y.ev E with
  | .d a,.d b=>(zgI op a b).map fun v=>(.d v,H)
  | _,_=>none
 | .eqs ng n ls x y=>match x.ev E,y.ev E with
  | .d (.agg a),.d (.agg b)=>if a.length=n/\b.length=n then (zgN a b ls).map fun r=>(.d (.bool (if ng then !r else r)),H) else none
  | _,_=>none
 | .nacc=>if zaX dst E=false/\zaq dst H=false then some (.acc dst [],zP dst (.acc 0) H) else none
 | .un op x=>match op,x.ev E with
  | .not,.d (.bool b)=>some (.d (.bool (!b)),H)
  | _,_=>none
 | .cvi k x=>match x.ev E with| .d (.int _ n)=>some (.d (.int k (k.wrap n)),H)|_=>none
 | .fad ag off n x=>(zd6 ag off n (x.ev E)).map fun v=>(v,H)
 | .fld ag off n x=>match x.ev E with
  | .d (.agg cs)=>(zcc ag off n (.agg cs)).map fun v=>(.d v,H)
  | .agg cs=>(zep ag off n (.agg cs)).map fun v=>(v,H)
  | _=>none
 | .iad n x i=>(zbQ (i.ev E)).bind fun k=>if 0<=k then (zcH H n k (x.ev E)).map fun v=>(v,H) else none
 | .idxa ag len n x i=>(zbQ (i.ev E)).bind fun k=>if 0<=k/\k<len then (zrv ag (k.toNat * n) n (x.ev E)).map fun v=>(v,H) else none
 | .idx x i=>match x.ev E,zbQ (i.ev E) with
  | .d (.str s),some k=>if 0<=k then (s[k.toNat]?).map fun b=>(.d (.int .u8 b.toNat),H) else none
  | _,_=>none
 | .slc n x lo hi mx=>(zcj H n (lo.map (·.ev E)) (hi.map (·.ev E)) (mx.map (·.ev E)) (x.ev E)).map fun v=>(v,H)
 | .ext x i=>match x.ev E with
  | .d (.tup vs)=>(vs[i]?).map fun v=>(.d v,H)
  | .tup vs=>(vs[i]?).map fun v=>(v,H)
  | _=>none
 | .lens x=>match x.ev E with
  | .d (.str s)=>some (.d (.int .i64 s.length),H)
  | _=>none
 | .len x=>match x.ev E with
  | .osl _ _ len=>some (.d (.int .i64 len),H)
  | y=>(slD y).map fun es=>(.d (.int .i64 es.length),H)
 | .mm mx xs=>match xs.map (·.ev E) with|[]=>none|y::ys=>(mmD mx y ys).map fun v=>(v,H)
 | .mkfn f cs=>some (AV.mkFn f (cs.map (·.ev E)),H)
 | .build z ps=>(zbA z (ps.map fun p=>(p.1,p.2.1,p.2.2.ev E))).map fun cs=>(AV.mkAgg cs,H)
 | .bsl len n z ps=>if z.size=n/\(ps.all fun p=>(p.2.ev E).size==n)=true then
     (zd8 (List.replicate len z) (ps.map fun p=>(p.1,p.2.ev E))).bind fun es=>
      match zbq es with
      | some ds=>some (.xsl ds,H)
      | none=>if zaX dst E=false/\zaq dst H=false then some (.osl dst 0 len,zP dst (.row es) H) else none
     else none
 | .mks n z l c=>match l.ev E,c.ev E with
  | .d (.int .i64 a),.d (.int .i64 b)=>if 0<=a/\a=b/\a<=LIM/\z.size=n/\zaX dst E=false/\zaq dst H=false then some (.osl dst 0 a.toNat,zP dst (.row (List.replicate a.toNat z)) H) else none
  | _,_=>none
 | .b2s x=>(slD (x.ev E)).bind fun es=>(zge es).map fun s=>(.d (.str s),H)
 | .app n x y=>(zc9 H (y.ev E)).bind fun ys=>zcf E H dst n ys (x.ev E)
 | .mkm=>if zaX dst E=false/\zaq dst H=false then some (.mpr dst,zP dst (.mp []) H) else none
 | .lkp ok z x k=>(zky H ok z (x.ev E) (k.ev E)).map fun v=>(v,H)
 | .mup x k v=>zmT H (x.ev E) (k.ev E) (v.ev E)
 | _=>none
end Go.Sim

namespace Go.Sim
open Go (World Value Addr TypeId)
theorem zZg{α:Type}{k:Nat}{x:α}{l:List (Nat×α)}(h:(k,x)∈l):∃y,look k l=some y:=by
 induction l with
 | nil=>cases h
 | cons p l ih=>
  obtain⟨j,y⟩:=p;simp only[look]
  by_cases e:j=k
  ·rw[zabo e];exact⟨_,rfl⟩
  ·rw[zabn e]
   cases h with
   | head=>exact absurd rfl e
   | tail _ h=>exact ih h
variable {C:Ctx} {S:St} {a:Act} {w:World} {ι:Inj} {R:Nat->Prop}
theorem Rel.put(h:Rel C S a w ι R){x:AV}{u:Value}(hv:VA w R ι (mark S.heap) x u){d:Nat}(hd:d<C.n):
    Rel C ⟨zP d x S.env,S.heap⟩ (a.put (some d) u) w ι R:=by
 refine⟨h.defers,by simp [Act.put,h.size],h.os,h.tape,h.output,h.grow,h.len,h.keep,h.keepLt,h.rlt,h.rok,h.r0,h.own,h.inj,?_,h.heap⟩;intro t y hy;simp only[zP] at hy
 cases hy with
 | head=>
  refine⟨u,?_,hv⟩;have:=C.le;simp only[zeu,Act.put];rw[zabo (by omega),zad9 (by rw[h.size];exact hd)]
 | tail _ hy=>
  obtain⟨h1,h2⟩:=zi1.1 hy;obtain⟨u',h3,h4⟩:=h.env t y h1;refine⟨u',?_,h4⟩;simp only[zeu,Act.put] at h3 ⊢;rw[zaea (Ne.symm h2)];exact h3
theorem Rel.put_none(h:Rel C S a w ι R)(u:Value):Rel C S (a.put none u) w ι R:=h
theorem Rel.weaken(h:Rel C S a w ι R){E:Env}(hE:∀t x,(t,x)∈E->(t,x)∈S.env):Rel C ⟨E,S.heap⟩ a w ι R:=
 ⟨h.defers,h.size,h.os,h.tape,h.output,h.grow,h.len,h.keep,h.keepLt,h.rlt,h.rok,h.r0,h.own,h.inj,fun t x hx=>h.env t x (hE t x hx),h.heap⟩
theorem Rel.tmp(h:Rel C S a w ι R){t:Nat}{x:AV}(ht:t<1000000)(hx:look t S.env=some x):VA w R ι (mark S.heap) x (a.eval (.tmp t)):=by
 obtain⟨u,h1,h2⟩:=h.env t x (zav hx);simp only[zeu,zabo ht] at h1;simp only[Act.eval,zacZ,h1,zacS];exact h2
theorem zq7{v:Value}{x:AV}(h:zhu v=some x)(w:World)(R:Nat->Prop)(ι:Inj)(mk:Nat->Option Nat):VA w R ι mk x v/\x.cell=true:=by
 unfold zhu at h
 split at h
 ·split at h
  ·rename_i hk;cases h;exact⟨.d (.int hk),rfl⟩
  ·cases h
 ·cases h;exact⟨.d .bool,rfl⟩
 ·split at h
  ·rename_i s hs
   cases h
   refine⟨.d ?_,rfl⟩;have:=Rd.str (w:=w) (R:=R) hs;have e:(⟨s.data.toList.toArray⟩:ByteArray)=s:=by cases s;simp
   rwa [e] at this
  ·cases h
 ·cases h;exact⟨.xsl .sl0,rfl⟩
 ·split at h
  ·rename_i hk;cases h;exact⟨.d (.nil hk),rfl⟩
  ·cases h
theorem ziu{cs:List AV}{ds:List D}(h:zbq cs=some ds):cs=ds.map .d:=by
 induction cs generalizing ds with
 | nil=>simp [zbq] at h;subst h;rfl
 | cons x l ih=>
  cases x with
  | d y=>
   simp only[zbq,zabr] at h;obtain⟨ds',h1,h2⟩:=h;subst h2;rw[ih h1];rfl
  | _=>simp [zbq] at h
theorem VA.of_d{mk:Nat->Option Nat}{x:D}{u:Value}(h:VA w R ι mk (.d x) u):Rd w R (.v x u):=by cases h;assumption
theorem VA.mkAgg {mk:Nat->Option Nat} {cs:List AV} {vs:List Value} (hl:vs.length=cs.length) (hc:∀c∈cs,c.cell=true)
    (h:∀(i:Nat) (c:AV) (u:Value),cs[i]? = some c->vs[i]? = some u->VA w R ι mk c u):VA w R ι mk (AV.mkAgg cs) (.agg vs.toArray):=by
 unfold AV.mkAgg
 cases hd:zbq cs with
 | none=>exact .agg hl hc h
 | some ds=>
  have:=ziu hd;subst this;refine .d (.agg (by simpa using hl) (fun c hm=> ?_) fun i c u h1 h2=>(h i (.d c) u (by simp [h1]) h2).of_d);exact hc (.d c) (by simpa using hm)
theorem VA.mkTup {mk:Nat->Option Nat} {cs:List AV} {vs:List Value} (hl:vs.length=cs.length)
    (h:∀(i:Nat) (c:AV) (u:Value),cs[i]? = some c->vs[i]? = some u->VA w R ι mk c u):VA w R ι mk (AV.mkTup cs) (.tuple vs.toArray):=by
 unfold AV.mkTup
 cases hd:zbq cs with
 | none=>exact .tup hl h
 | some ds=>
  have:=ziu hd;subst this;exact .d (.tup (by simpa using hl) fun i c u h1 h2=>(h i (.d c) u (by simp [h1]) h2).of_d)
theorem VA.mkFn {mk:Nat->Option Nat} {f:FuncId} {cs:List AV} {vs:List Value} (hl:vs.length=cs.length)
    (h:∀(i:Nat) (c:AV) (u:Value),cs[i]? = some c->vs[i]? = some u->VA w R ι mk c u):VA w R ι mk (AV.mkFn f cs) (.func (.func f) #[] vs.toArray):=by
 unfold AV.mkFn
 cases hd:zbq cs with
 | none=>exact .fn hl h
 | some ds=>
  have:=ziu hd;subst this;exact .d (.fn (by simpa using hl) fun i c u h1 h2=>(h i (.d c) u (by simp [h1]) h2).of_d)
theorem zeT{α β:Type}{f:α->Option β}:∀ {l:List α} {m:List β},l.mapM f=some m->m.length=l.length/\∀(i:Nat) (x:α) (y:β),l[i]? = some x->m[i]? = some y->f x=some y:=by
 intro l
 induction l with
 | nil=>intro m h;simp at h;subst h;simp
 | cons x l ih=>
  intro m h;simp only[zacU,zabT,zabW] at h;obtain⟨y,hy,h⟩:=zabp.1 h;obtain⟨ys,hys,h⟩:=zabp.1 h
  cases h
  obtain⟨h1,h2⟩:=ih hys;refine⟨by simp [h1],fun i a b ha hb=> ?_⟩
  match i,ha,hb with
  | 0,ha,hb=>simp at ha hb;subst ha hb;exact hy
  | n+1,ha,hb=>exact h2 n a b (by simpa using ha) (by simpa using hb)
theorem zrc{v:Value}{x:AV}(h:zfK v=some x)(w:World)(R:Nat->Prop)(ι:Inj)(mk:Nat->Option Nat):VA w R ι mk x v:=by
 unfold zfK at h
 split at h
 ·rename_i cs;obtain⟨ds,h1,h2⟩:=zabr.1 h;subst h2;obtain⟨hl,hg⟩:=zeT h1;have e:cs=cs.toList.toArray:=by simp
  rw[e];refine VA.mkAgg hl.symm (fun c hc=> ?_) fun i c u h3 h4=>(zq7 (hg i u c h4 h3) w R ι mk).1;obtain⟨i,hi⟩:=zab6 hc;have hlt:i<cs.toList.length:=by rw[<- hl];exact (zabB.1 hi).1
  exact (zq7 (hg i _ c (zabx hlt) hi) w R ι mk).2
 ·exact (zq7 h w R ι mk).1
theorem Rel.ev(h:Rel C S a w ι R){o:Operand}{x:Opd}(hx:opd o=some x):VA w R ι (mark S.heap) (x.ev S.env) (a.eval o):=by
 cases o with
 | tmp t=>
  simp only[opd] at hx
  split at hx
  ·rename_i ht
   cases hx
   simp only[Opd.ev]
   cases hl:look t S.env with
   | none=>exact .undef
   | some y=>exact h.tmp ht hl
  ·cases hx
 | const v=>
  simp only[opd] at hx
  split at hx
  ·cases hx;exact .undef
  ·obtain⟨y,h1,h2⟩:=zabr.1 hx;subst h2;exact zrc h1 _ _ _ _
 | global g=>cases hx
 | func f=>
  simp only[opd,Option.some.injEq] at hx;subst hx;exact .d (.fn (cs:=[]) (vs:=[]) rfl (by simp))
theorem Rel.change (h:Rel C S a w ι R) {w':World} {ι':Inj} {R':Nat->Prop} {H':zd}
    (os:w'.os=w.os) (tape:w'.tape=w.tape) (output:w'.output=w.output) (grow:w.heap.size<=w'.heap.size) (blk:∀b,b<w.heap.size->Blk w w' b 0)
    (keep:∀b,C.keep b->w'.heap[b]? = w.heap[b]?) (hR:∀b,R b->R' b) (rlt:∀b,R' b->b<w'.heap.size) (rok:∀b,R' b->C.R0 b\/¬C.keep b)
    (hK:zbK R w w') (own:∀o b s,ι' o=some (b,s)->¬C.keep b/\b<w'.heap.size) (inj:∀o o' b s s',ι' o=some (b,s)->ι' o'=some (b,s')->o=o')
    (st:∀p,zaX p S.env=true->Step w w' ι ι' (mark S.heap) (mark H') p)
    (hp:∀o ob,(o,ob)∈H'->OB w' R' ι' (mark H') o ob):Rel C ⟨S.env,H'⟩ a w' ι' R':=by
 refine⟨h.defers,h.size,os.trans h.os,tape.trans h.tape,output.trans h.output,zaca h.grow grow,fun b hb=>(h.len b hb).trans (blk b (zaco hb h.grow)),fun b hb=>(keep b hb).trans (h.keep b hb),h.keepLt,rlt,rok,
  fun b hb=>hR b (h.r0 b hb),own,inj,?_,hp⟩
 intro t x hx;obtain⟨u,h1,h2⟩:=h.env t x hx;refine⟨u,h1,h2.mono hR hK fun p hp=>st p ?_⟩
 cases hh:zaX p S.env with
 | true=>rfl
 | false=>rw[znm hx hh] at hp;cases hp
def zho(o:Nat)(S:St):Prop:=zaX o S.env=false/\zaq o S.heap=false
def upd(ι:Inj)(o:Nat)(p:Nat×Nat):Inj:=fun q=>if q=o then some p else ι q
theorem zcQ{o:Nat}{p:Nat×Nat}:upd ι o p o=some p:=by simp [upd]
theorem zbp{o q:Nat}{p:Nat×Nat}(h:q≠o):upd ι o p q=ι q:=by simp [upd,h]
theorem zej{H:zd}{o q:Nat}{ob:Obj}(h:q≠o):mark (zP o ob H) q=mark H q:=by simp [mark,zMf h]
theorem zei{H:zd}{o:Nat}{ob:Obj}:mark (zP o ob H) o=(match ob with| .acc n=>some n| .frz m=>m|_=>none):=by
 simp only[mark,zZk];cases ob<;>rfl
theorem zcU{o:Go.Obj}{b:Nat}(h:b<w.heap.size):(w.alloc o).heap[b]? = w.heap[b]? := heap_alloc_old w o b h
theorem zbK.alloc(h:Rel C S a w ι R)(o:Go.Obj):zbK R w (w.alloc o):=fun b hb=>zcU (h.rlt b hb)
theorem Step.other{w':World}{H':zd}{ι':Inj}{p:Nat}(hι:ι' p=ι p)(hm:mark H' p=mark S.heap p)(hb:∀b s,ι p=some (b,s)->w'.heap[b]? = w.heap[b]?):
    Step w w' ι ι' (mark S.heap) (mark H') p:=
 ⟨fun b s h=>by rw[hι,h],fun b s h=>Blk.of_eq (hb b s h),fun m h=>⟨m,by rw[hm,h],zabR _⟩,fun m h=>⟨m,by rw[<- hm,h],zabR _⟩⟩
theorem Rel.new (h:Rel C S a w ι R) {o s:Nat} {ob:Obj} (c:Array Value) (T:TypeId) (hu:zho o S)
    (hob:OB (w.alloc (.cells c T)) R (upd ι o (w.heap.size,s)) (mark (zP o ob S.heap)) o ob):
    Rel C ⟨S.env,zP o ob S.heap⟩ a (w.alloc (.cells c T)) (upd ι o (w.heap.size,s)) R:=by
 have hst:∀p,p≠o->Step w (w.alloc (.cells c T)) ι (upd ι o (w.heap.size,s)) (mark S.heap) (mark (zP o ob S.heap)) p:=fun p hp=>
  Step.other (zbp hp) (zej hp) fun b s hb=>zcU (h.own p b s hb).2
 refine h.change rfl rfl rfl (by simp) (fun b hb=>Blk.of_eq (zcU hb)) (fun b hb=>zcU (zaco (h.keepLt b hb) h.grow)) (fun _ hb=>hb) (fun b hb=>by have:=h.rlt b hb;simp;omega) h.rok (zbK.alloc h _) ?_ ?_ ?_ ?_
 ·intro q b s' hq
  by_cases e:q=o
  ·subst e;rw[zcQ] at hq;cases hq;exact⟨fun hk=>by have:=h.keepLt _ hk;have:=h.grow;omega,by simp⟩
  ·rw[zbp e] at hq;have:=h.own q b s' hq;exact⟨this.1,by simp;omega⟩
 ·intro q q' b s1 s2 h1 h2
  by_cases e:q=o<;>by_cases e':q'=o
  ·rw[e,e']
  ·subst e;rw[zcQ] at h1;rw[zbp e'] at h2;cases h1;have:=(h.own _ _ _ h2).2;omega
  ·subst e';rw[zcQ] at h2;rw[zbp e] at h1;cases h2;have:=(h.own _ _ _ h1).2;omega
  ·rw[zbp e] at h1;rw[zbp e'] at h2;exact h.inj _ _ _ _ _ h1 h2
 ·intro p hp;refine hst p fun e=> ?_;subst e;rw[hu.1] at hp;cases hp
 ·intro q ob' hq
  cases hq with
  | head=>exact hob
  | tail _ hq=>
   obtain⟨h1,h2⟩:=zi1.1 hq;refine (h.heap q ob' h1).mono (fun _ hb=>hb) (zbK.alloc h _) (fun b s' hb=>⟨by rw[zbp h2,hb],zcU (h.own q b s' hb).2,fun hb=>hb⟩) (fun h0=>by rw[zbp h2,h0]) fun p hp=> ?_;refine hst p fun e=> ?_;subst e;have:=zhd h1 hu.2;rw[hp] at this;cases this
theorem Rel.newRO(h:Rel C S a w ι R)(ob:Go.Obj):Rel C S a (w.alloc ob) ι (fun b=>R b\/b=w.heap.size):=by
 have hst:∀p,Step w (w.alloc ob) ι ι (mark S.heap) (mark S.heap) p:=fun p=>Step.same fun b s hb=>zcU (h.own p b s hb).2;refine h.change (H':=S.heap) rfl rfl rfl (by simp) (fun b hb=>Blk.of_eq (zcU hb)) (fun b hb=>zcU (zaco (h.keepLt b hb) h.grow)) (fun _ hb=> .inl hb) ?_ ?_ (zbK.alloc h _) ?_ h.inj (fun p _=>hst p) ?_
 ·rintro b (hb|rfl)
  ·have:=h.rlt b hb;simp;omega
  ·simp
 ·rintro b (hb|rfl)
  ·exact h.rok b hb
  ·exact .inr fun hk=>by have:=h.keepLt _ hk;have:=h.grow;omega
 ·intro o b s ho;have:=h.own o b s ho;exact⟨this.1,by simp;omega⟩
 ·intro q ob' hq;refine (h.heap q ob' hq).mono (fun _ hb=> .inl hb) (zbK.alloc h _) (fun b s' hb=> ?_) (fun h0=>h0) fun p _=>hst p;have:=(h.own q b s' hb).2;refine⟨hb,zcU this,?_⟩;rintro (hr|hr)
  ·exact hr
  ·omega
theorem Rel.drew(h:Rel C S a w ι R):Rel C S a w.drew ι R:=
 ⟨h.defers,h.size,h.os,h.tape,h.output,h.grow,h.len,h.keep,h.keepLt,h.rlt,h.rok,h.r0,h.own,h.inj,
  fun t x hx=>let ⟨u,h1,h2⟩:=h.env t x hx;⟨u,h1,h2.mono (fun _ h=>h) (fun _ _=>rfl) fun _ _=>Step.same fun _ _ _=>rfl⟩,
  fun o ob ho=>(h.heap o ob ho).mono (fun _ h=>h) (fun _ _=>rfl) (fun _ _ hb=>⟨hb,rfl,fun h=>h⟩) (fun h=>h) fun _ _=>Step.same fun _ _ _=>rfl⟩
end Go.Sim

namespace Go.Sim
open Go (World Value Addr TypeId Act)
def zR(C:Ctx)(S:St)(a:Act)(v:AV)(H:zd)(r:Result Next):Prop:=
 ∃u w' ι' R',(r= .ok (.value u) w'\/(r= .ok .skip w'/\u=Go.undef))/\Rel C ⟨S.env,H⟩ a w' ι' R'/\VA w' R' ι' (mark H) v u
variable {P:Program} {C:Ctx} {S:St} {a:Act} {w:World} {ι:Inj} {R:Nat->Prop}
theorem zR.same(h:Rel C S a w ι R){v:AV}{u:Value}(hv:VA w R ι (mark S.heap) v u){r:Result Next}(hr:r= .ok (.value u) w):zR C S a v S.heap r:=
 ⟨u,w,ι,R,.inl hr,h,hv⟩
section inv
variable {mk:Nat->Option Nat}
theorem VA.int_inv{k:IntKind}{n:Int}{u:Value}(h:VA w R ι mk (.d (.int k n)) u):u= .int k n/\k.has n:=by
 cases h with|d h=>cases h with|int h=>exact⟨rfl,h⟩
theorem VA.bool_inv{b:Bool}{u:Value}(h:VA w R ι mk (.d (.bool b)) u):u= .bool b:=by
 cases h with|d h=>cases h;rfl
theorem VA.str_inv{s:List UInt8}{u:Value}(h:VA w R ι mk (.d (.str s)) u):u= .string ⟨s.toArray⟩/\s.length<=LIM:=by
 cases h with|d h=>cases h with|str h=>exact⟨rfl,h⟩
theorem VA.pd_inv{x:D}{u:Value}(h:VA w R ι mk (.d (.pd x)) u):∃b off,u= .pointer (some ⟨b,off,none⟩)/\R b/\Rd w R (.el x b off):=by
 cases h with|d h=>cases h with|pd h1 h2=>exact⟨_,_,rfl,h1,h2⟩
theorem VA.tupD_inv{cs:List D}{u:Value}(h:VA w R ι mk (.d (.tup cs)) u):∃vs:List Value,u= .tuple vs.toArray/\vs.length=cs.length/\∀(i:Nat) (c:D) (q:Value),cs[i]? = some c->vs[i]? = some q->Rd w R (.v c q):=by
 cases h with|d h=>cases h with|tup h1 h2=>exact⟨_,rfl,h1,h2⟩
theorem VA.tup_inv{cs:List AV}{u:Value}(h:VA w R ι mk (.tup cs) u):∃vs:List Value,u= .tuple vs.toArray/\vs.length=cs.length/\∀(i:Nat) (c:AV) (q:Value),cs[i]? = some c->vs[i]? = some q->VA w R ι mk c q:=by
 cases h with|tup h1 h2=>exact⟨_,rfl,h1,h2⟩
end inv
theorem zfc(k:IntKind)(n:Int):k.has (k.wrap n):=by
 cases k<;>simp [IntKind.has,IntKind.wrap,IntKind.min,IntKind.max,IntKind.bits,IntKind.signed]<;>(try split)<;>omega
theorem zaar{k:IntKind}{x y:Int}(hx:k.has x):k.has (x.tmod y):=by
 have h1:(x.tmod y).natAbs<=x.natAbs:=by rw[Int.natAbs_tmod];exact Nat.mod_le _ _
 have h2:0<=x->0<=x.tmod y:=fun h=>zadS _ h;have h3:x<=0->x.tmod y<=0:=fun h=>by have:=zadS y (show 0<= -x by omega);rw[Int.neg_tmod] at this;omega
 generalize x.tmod y=z at *
 cases k<;>simp [IntKind.has,IntKind.min,IntKind.max,IntKind.bits,IntKind.signed] at * <;> omega
theorem zX5{T:TypeId}{op:BinOp}{k:IntKind}{x y:Int}{r:D}(h:zcI op k x y=some r)(hx:k.has x)(hop:op≠ .shl/\op≠ .shr)(w':World):
    ∃u,(binOp op T (.int k x) (.int k y)).run P w'= .ok u w'/\∀(w:World) (R:Nat->Prop),Rd w R (.v r u):=by
 cases op<;>simp only[zcI,Option.some.injEq,reduceCtorEq] at h
 case add=>subst h;exact⟨_,by simp [binOp,Op.intArith],fun w R=> .int (zfc _ _)⟩
 case sub=>subst h;exact⟨_,by simp [binOp,Op.intArith],fun w R=> .int (zfc _ _)⟩
 case mul=>subst h;exact⟨_,by simp [binOp,Op.intArith],fun w R=> .int (zfc _ _)⟩
 case quo=>split at h;cases h;rename_i h0;cases h;exact⟨_,by simp [binOp,Op.intDiv,h0],fun w R=> .int (zfc _ _)⟩
 case rem=>split at h;cases h;rename_i h0;cases h;exact⟨_,by simp [binOp,Op.intDiv,h0],fun w R=> .int (zaar hx)⟩
 case and=>subst h;exact⟨_,by simp [binOp,Op.intBits],fun w R=> .int (zfc _ _)⟩
 case or=>subst h;exact⟨_,by simp [binOp,Op.intBits],fun w R=> .int (zfc _ _)⟩
 case xor=>subst h;exact⟨_,by simp [binOp,Op.intBits],fun w R=> .int (zfc _ _)⟩
 case andNot=>subst h;exact⟨_,by simp [binOp,Op.intBits],fun w R=> .int (zfc _ _)⟩
 all_goals (subst h;exact⟨_,by simp [binOp,Op.intCmp];try rfl,fun w R=> .bool⟩)
theorem z5f{k:IntKind}{x:Int}(n:Nat)(hx:k.has x):k.has (x.fdiv (2 ^ n)):=by
 have hp:(0:Int)<2 ^ n:=Int.pow_pos (by omega);rw[zaeA _ (Int.le_of_lt hp)];have h1:0<=x->0<=x / 2 ^ n/\x / 2 ^ n<=x:=fun h=>⟨Int.ediv_nonneg h (Int.le_of_lt hp),Int.ediv_le_self _ h⟩;have h2:x<0->x<=x / 2 ^ n/\x / 2 ^ n<0:=fun h=>by
  refine⟨?_,Int.ediv_neg_of_neg_of_pos h hp⟩;rw[Int.le_ediv_iff_mul_le hp];have h1:(1:Int)<=2 ^ n:=hp;have:=Int.mul_le_mul_of_nonpos_left (a:=x) (b:=2 ^ n) (c:=1) (by omega) h1;simpa using this
 generalize x / 2 ^ n=z at *
 cases k<;>simp [IntKind.has,IntKind.min,IntKind.max,IntKind.bits,IntKind.signed] at * <;> omega
theorem z9f{op:BinOp}{k k':IntKind}{x y:Int}{r:D}(h:zk9 op k x y=some r)(hx:k.has x)(T:TypeId)(w':World):
    ∃u,(binOp op T (.int k x) (.int k' y)).run P w'= .ok u w'/\∀(w:World) (R:Nat->Prop),Rd w R (.v r u):=by
 unfold zk9 at h
 split at h
 ·cases h
 ·rename_i hy
  cases op<;>simp only[Option.some.injEq,reduceCtorEq] at h
  ·subst h;exact⟨_,by simp [binOp,Op.shift,hy],fun w R=> .int (zfc _ _)⟩
  ·subst h;exact⟨_,by simp [binOp,Op.shift,hy],fun w R=> .int (z5f _ hx)⟩
theorem zQ4(a:List UInt8):(⟨a.toArray⟩:ByteArray).toList=a:=by
 rw[ByteArray.toList_eq]
theorem z9U{op:BinOp}{x y:List UInt8}{r:D}(h:znG op x y=some r)(T:TypeId)(w':World):
    ∃u,(binOp op T (.string ⟨x.toArray⟩) (.string ⟨y.toArray⟩)).run P w'= .ok u w'/\∀(w:World) (R:Nat->Prop),Rd w R (.v r u):=by
 cases op<;>simp only[znG,Option.some.injEq,reduceCtorEq] at h
 case add=>
  split at h
  ·rename_i hl;cases h;refine⟨.string ⟨(x++y).toArray⟩,?_,fun w R=> .str hl⟩;have h1:¬(IntKind.i64.max<((x.length:Int)+(y.length:Int))):=by
    simp only[zabv,LIM] at hl;simp [IntKind.max,IntKind.signed,IntKind.bits];omega
   simp only[zadB,IntKind.max,IntKind.signed,IntKind.bits] at h1;have h2:((⟨x.toArray⟩:ByteArray)++⟨y.toArray⟩)=⟨(x++y).toArray⟩:=by
    ext1;simp
   simp [binOp,Op.stringOp,h2,ByteArray.size,IntKind.max,IntKind.signed,IntKind.bits];simpa using h1
  ·cases h
 case eql=>subst h;exact⟨.bool (decide (x=y)),by simp [binOp,Op.stringOp,zQ4];by_cases e:x=y<;>simp [e],fun w R=> .bool⟩
 case neq=>subst h;exact⟨.bool (!decide (x=y)),by simp [binOp,Op.stringOp,zQ4];by_cases e:x=y<;>simp [e],fun w R=> .bool⟩
end Go.Sim

namespace Go.Sim
open Go (World Value Addr TypeId Act)
variable {P:Program} {C:Ctx} {S:St} {a:Act} {w:World} {ι:Inj} {R:Nat->Prop}
theorem zmA{t:TypeId}{ag:Bool}(h:zbi P t=some ag)(w:World):(isAgg t).run P w= .ok ag w:=by
 unfold zbi at h;unfold isAgg
 cases hu:P.underlying t with
 | none=>simp [hu] at h
 | some d=>
  rw[Sem.run_bind,run_underlying hu w]
  cases d<;>simp [hu] at h<;>subst h<;>simp
theorem zet{t:TypeId}{n:Nat}(h:zaQ P t=some n)(w:World):(sizeOf t).run P w= .ok n w:=by
 unfold zaQ at h;obtain⟨i,h1,h2⟩:=zabr.1 h;simp [sizeOf,typeInfo,h1,h2]
theorem zu2{w:World}{b off n:Nat}{Q:Nat->Value->Prop}(h:∀j,j<n->∃q,w.cell? ⟨b,off+j,none⟩=some q/\Q j q):
    ∃qs:List Value,qs.length=n/\w.rangeAt b off qs/\∀j q,qs[j]? = some q->Q j q:=by
 refine⟨(List.range n).map fun j=>(w.cell? ⟨b,off+j,none⟩).getD Go.undef,by simp,?_,?_⟩
 ·intro j v hv;have hj:j<n:=by have:=(zabB.1 hv).1;simpa using this
  obtain⟨q,h1,_⟩:=h j hj;rw[zabI,List.getElem?_range hj] at hv;simp [h1] at hv;rw[h1,hv]
 ·intro j v hv;have hj:j<n:=by have:=(zabB.1 hv).1;simpa using this
  obtain⟨q,h1,h2⟩:=h j hj;rw[zabI,List.getElem?_range hj] at hv;simp [h1] at hv;subst hv;exact h2
theorem zL8{t:TypeId}{n b off:Nat}{qs:List Value}(hag:zbi P t=some true)(hn:zaQ P t=some n)(hl:qs.length=n)(hr:w.rangeAt b off qs):
    (loadVar t ⟨b,off,none⟩).run P w= .ok (.agg qs.toArray) w:=by
 have h1:=run_loadCells_list (P:=P) w ⟨b,off,none⟩ qs (fun j v hv=>by rw[Addr.add_mid];exact hr j v hv);rw[hl] at h1;simp [loadVar,zmA hag,zet hn,h1]
theorem zL9{t:TypeId}{b off:Nat}{q:Value}(hag:zbi P t=some false)(hq:w.cell? ⟨b,off,none⟩=some q):
    (loadVar t ⟨b,off,none⟩).run P w= .ok q w:=by
 simp [loadVar,zmA hag,hq]
theorem D.size_agg(cs:List D):(D.agg cs).size=cs.length:=rfl
theorem zR8(x:D):x.asAgg= .agg x.cells:=by cases x<;>rfl
theorem zhb{ag:Bool}{off n:Nat}{x y:D}(h:zcc ag off n x=some y)(hn:n≠0):
    off+n<=x.size/\((ag=true/\y= .agg ((x.cells.drop off).take n))\/(ag=false/\n=1/\x.cells[off]? = some y)):=by
 unfold zcc at h
 cases ag with
 | true=>
  simp only[if_true] at h
  split at h
  ·rename_i h1;cases h;refine⟨by omega,.inl ⟨rfl,?_⟩⟩;rw[zR8,h1.1,h1.2];simp [D.size]
  ·split at h
   ·rename_i h1;cases h;exact⟨h1,.inl ⟨rfl,rfl⟩⟩
   ·cases h
 | false=>
  simp only[zabz,if_false] at h
  split at h
  ·rename_i h1;have:=(zabB.1 h).1;exact⟨by simp [D.size];omega,.inr ⟨rfl,h1,h⟩⟩
  ·cases h
theorem ztD{α:Type}{l:List α}{off n j:Nat}(h:off+n<=l.length)(hj:j<n):((l.drop off).take n)[j]? = l[off+j]? := by
 rw[zadg hj,zado]
theorem Rd.part_el{x y:D}{b o off n:Nat}{ag:Bool}(h:Rd w R (.el x b o))(hp:zcc ag off n x=some y)(hn:n≠0):Rd w R (.el y b (o+off)):=by
 obtain⟨h1,h2|⟨_,_,h2⟩⟩:=zhb hp hn
 ·obtain⟨_,rfl⟩:=h2;have hc:=h.v_of_cells;refine Rd.el_of_cells (fun vs=>by simp) fun i c hi=> ?_;have hi:((x.cells.drop off).take n)[i]? = some c:=hi;have hlt:i<n:=by have:=(zabB.1 hi).1;simp at this;omega
  rw[ztD h1 hlt] at hi;obtain⟨k1,q,k2,k3⟩:=hc _ _ hi;exact⟨k1,q,by rw[<- k2];congr 2;omega,k3⟩
 ·obtain⟨k1,q,k2,k3⟩:=h.v_of_cells _ _ h2;exact .elc k1 k2 k3
theorem Rd.load{x y:D}{b o n:Nat}{ag:Bool}{t:TypeId}(h:Rd w R (.el x b o))(hp:zcc ag 0 n x=some y)(hn:n≠0)(hag:zbi P t=some ag)(hsz:zaQ P t=some n):
    ∃u,(loadVar t ⟨b,o,none⟩).run P w= .ok u w/\Rd w R (.v y u):=by
 obtain⟨h1,⟨rfl,rfl⟩|⟨rfl,h0,h2⟩⟩:=zhb hp hn
 ·have hc:=h.v_of_cells;have hlen:n<=x.cells.length:=by simpa [D.size] using h1
  obtain⟨qs,hl,hr,hq⟩:=zu2 (w:=w) (b:=b) (off:=o) (n:=n) (Q:=fun j q=>∀c,x.cells[j]? = some c->c.cell=true/\Rd w R (.v c q)) fun j hj=>by
   have he:x.cells[j]? = some x.cells[j]:=zabx (by omega);obtain⟨k1,q,k2,k3⟩:=hc j _ he;exact⟨q,k2,fun c hc'=>by rw[he] at hc';cases hc';exact⟨k1,k3⟩⟩
  refine⟨_,zL8 hag hsz hl hr,?_⟩;have key:∀(i:Nat) (c:D),((x.cells.drop 0).take n)[i]? = some c->i<n/\x.cells[i]? = some c:=fun i c hi=>by
   have hlt:i<n:=by have:=(zabB.1 hi).1;simp at this;omega
   rw[ztD (by omega) hlt] at hi;exact⟨hlt,by simpa using hi⟩
  refine .agg (by simp;omega) (fun c hc'=> ?_) fun i c u h3 h4=>(hq i u h4 c (key i c h3).2).2;obtain⟨i,hi⟩:=zab6 hc';obtain⟨hlt,hx⟩:=key i c hi;obtain⟨k1,_⟩:=hc i c hx;exact k1
 ·obtain⟨k1,q,k2,k3⟩:=h.v_of_cells _ _ h2;exact⟨q,zL9 hag (by simpa using k2),k3⟩
def ElA(w:World)(R:Nat->Prop)(ι:Inj)(mk:Nat->Option Nat)(e:AV)(b off:Nat):Prop:=
 ∀(j:Nat) (x:AV),e.cells[j]? = some x->x.cell=true/\∃q,w.cell? ⟨b,off+j,none⟩=some q/\VA w R ι mk x q
theorem ElA.load{mk:Nat->Option Nat}{e v:AV}{b o off n:Nat}{ag:Bool}{t:TypeId}(h:ElA w R ι mk e b o)(hp:zep ag off n e=some v)(hn:n≠0)(hag:zbi P t=some ag)(hsz:zaQ P t=some n):
    ∃u,(loadVar t ⟨b,o+off,none⟩).run P w= .ok u w/\VA w R ι mk v u:=by
 have general:∀(m:Nat),m=n->off+n<=e.cells.length->ag=true->∃u,(loadVar t ⟨b,o+off,none⟩).run P w= .ok u w/\VA w R ι mk (AV.mkAgg ((e.cells.drop off).take n)) u:=by
  intro m _ hlen hagt;obtain⟨qs,hl,hr,hq⟩:=zu2 (w:=w) (b:=b) (off:=o+off) (n:=n) (Q:=fun j q=>∀c,e.cells[off+j]? = some c->c.cell=true/\VA w R ι mk c q) fun j hj=>by
   have he:e.cells[off+j]? = some e.cells[off+j]:=zabx (by omega);obtain⟨k1,q,k2,k3⟩:=h _ _ he;exact⟨q,by rw[<- k2];congr 2;omega,fun c hc'=>by rw[he] at hc';cases hc';exact⟨k1,k3⟩⟩
  refine⟨_,zL8 (hagt ▸ hag) hsz hl hr,?_⟩;have key:∀(i:Nat) (c:AV),((e.cells.drop off).take n)[i]? = some c->i<n/\e.cells[off+i]? = some c:=fun i c hi=>by
   have hlt:i<n:=by have:=(zabB.1 hi).1;simp at this;omega
   rw[ztD (by omega) hlt] at hi;exact⟨hlt,hi⟩
  refine VA.mkAgg (by simp;omega) (fun c hc'=> ?_) fun i c u h3 h4=>(hq i u h4 c (key i c h3).2).2;obtain⟨i,hi⟩:=zab6 hc';exact (h _ _ (key i c hi).2).1
 cases e with
 | d x=>
  simp only[zep,zabr] at hp;obtain⟨y,hp,rfl⟩:=hp;have hel:Rd w R (.el x b o)\/∃vs,x= .tup vs:=by
   by_cases hx:∃vs,x= .tup vs
   ·exact .inr hx
   ·refine .inl (Rd.el_of_cells (fun vs hvs=>hx ⟨vs,hvs⟩) fun i c hi=> ?_);obtain⟨k1,q,k2,k3⟩:=h i (.d c) (by simp [AV.cells,hi]);exact⟨k1,q,k2,k3.of_d⟩
  rcases hel with hel|⟨vs,rfl⟩
  ·obtain⟨h1,_⟩:=zhb hp hn;have h2:=hel.part_el hp hn;have:∃z,zcc ag 0 n y=some z/\z=y:=by
    obtain⟨h1,⟨rfl,rfl⟩|⟨rfl,h0,h2⟩⟩:=zhb hp hn
    ·refine⟨_,?_,rfl⟩;simp only[zcc,if_true];have e:n=(D.agg (List.take n (List.drop off x.cells))).size:=by rw[D.size_agg,zac9,zadA];have h1:off+n<=x.cells.length:=h1;omega
     rw[zabo ⟨trivial,e⟩];rfl
    ·refine⟨y,?_,rfl⟩;subst h0;have:=(hel.v_of_cells _ _ h2).1;simp [zcc,D.cells_cell this]
   obtain⟨z,hz,rfl⟩:=this;obtain⟨u,k1,k2⟩:=h2.load hz hn hag hsz;exact⟨u,k1,.d k2⟩
  ·have:=(h 0 (.d (.tup vs)) (by simp [AV.cells,D.cells])).1;simp [AV.cell,D.cell] at this
 | _=>
  simp only[zep] at hp
  cases ag with
  | true=>
   simp only[if_true] at hp
   split at hp
   ·rename_i h1;cases hp;exact general n rfl (by rw[AV.size_cells];omega) rfl
   ·cases hp
  | false=>
   simp only[zabz,if_false] at hp
   split at hp
   ·obtain⟨k1,q,k2,k3⟩:=h _ _ hp;exact⟨q,zL9 hag k2,k3⟩
   ·cases hp
end Go.Sim
